/-
  The laws of blocks. Lines of walks printed by a program of the prover's.
-/
import Derived.Test.YtbpcmlekankgmaaSpaceKnown
namespace Go.Proofs.Ytbpcmlekankgmaa
open Go Go.Sl Go.Sl.BitM Go.Sl.SpM
set_option linter.unusedVariables false
set_option linter.unusedSimpArgs false
set_option maxHeartbeats 1000000
variable {W0 w : World} {L F : List HProp}

theorem zero_ok {at_ n : Int} {ad : Option Addr} {cd : Nat} {data : List UInt8} (h : On W0 F w) (C : Gives F (Bytes (.slice ad data.length cd) data)) :
    Calls Try.prog 5 #[.slice ad data.length cd, .int .i64 at_, .int .i64 n] w (Ret fun v w' => v = .bool true ∧ On W0 F w') := by
  refine enter Try.func5 rfl Try.ntmps5 rfl ?_
  have ob_ := (h.reads C).bounds
  obtain ⟨hdc, hdm⟩ := ob_
  have hmx := maxLen_eq
  refine W.seq ?_
  refine W.region ?_
  refine WL.val run_assign rfl rfl ?_
  refine WL.nil ?_
  refine W.seq ?_
  refine W.seq ?_
  refine W.region ?_
  refine WL.eff (eff_call Try.call13 (sknown_ok h)) rfl rfl ?_
  rintro _ w ⟨rfl, h⟩
  refine WL.val (run_not rfl) rfl rfl ?_
  refine WL.nil ?_
  refine W.condF rfl ?_
  refine W.skip ?_
  refine W.seq ?_
  refine W.seq ?_
  refine W.region ?_
  refine WL.val run_move rfl rfl ?_
  refine WL.val (run_lenSlice Try.underlying22 rfl) rfl rfl ?_
  refine WL.val (run_rem rfl rfl (by omega) (by omega)) rfl rfl ?_
  refine WL.dec (run_neq rfl rfl) rfl rfl (fun c21 => ?_) (fun c21 => ?_)
  · skip
    refine WL.val run_move rfl rfl ?_
    refine WL.skip rfl rfl ?_
    refine WL.skip rfl rfl ?_
    refine WL.skip rfl rfl ?_
    refine WL.val (run_pickT rfl) rfl rfl ?_
    refine WL.val run_move rfl rfl ?_
    refine WL.skip rfl rfl ?_
    refine WL.skip rfl rfl ?_
    refine WL.val (run_pickT rfl) rfl rfl ?_
    refine WL.val run_move rfl rfl ?_
    refine WL.skip rfl rfl ?_
    refine WL.skip rfl rfl ?_
    refine WL.val (run_pickT rfl) rfl rfl ?_
    refine WL.val run_move rfl rfl ?_
    refine WL.skip rfl rfl ?_
    refine WL.skip rfl rfl ?_
    refine WL.val (run_pickT rfl) rfl rfl ?_
    refine WL.val run_move rfl rfl ?_
    refine WL.skip rfl rfl ?_
    refine WL.skip rfl rfl ?_
    refine WL.val (run_pickT rfl) rfl rfl ?_
    refine WL.nil ?_
    refine W.condT rfl ?_
    refine W.seq ?_
    refine W.region ?_
    refine WL.val run_assign rfl rfl ?_
    refine WL.nil ?_
    refine W.ret ?_
    refine bodyQ.r1 (v := .bool _) Try.results5 rfl ?_
    -- path T
    exact ⟨rfl, h⟩
  · skip
    refine WL.val run_move rfl rfl ?_
    refine WL.val run_move rfl rfl ?_
    refine WL.val (run_lenSlice Try.underlying22 rfl) rfl rfl ?_
    refine WL.dec (run_gtr rfl rfl) rfl rfl (fun c25 => ?_) (fun c25 => ?_)
    · skip
      refine WL.val (run_pickF rfl) rfl rfl ?_
      refine WL.val run_move rfl rfl ?_
      refine WL.skip rfl rfl ?_
      refine WL.skip rfl rfl ?_
      refine WL.val (run_pickT rfl) rfl rfl ?_
      refine WL.val run_move rfl rfl ?_
      refine WL.skip rfl rfl ?_
      refine WL.skip rfl rfl ?_
      refine WL.val (run_pickT rfl) rfl rfl ?_
      refine WL.val run_move rfl rfl ?_
      refine WL.skip rfl rfl ?_
      refine WL.skip rfl rfl ?_
      refine WL.val (run_pickT rfl) rfl rfl ?_
      refine WL.val run_move rfl rfl ?_
      refine WL.skip rfl rfl ?_
      refine WL.skip rfl rfl ?_
      refine WL.val (run_pickT rfl) rfl rfl ?_
      refine WL.nil ?_
      refine W.condT rfl ?_
      refine W.seq ?_
      refine W.region ?_
      refine WL.val run_assign rfl rfl ?_
      refine WL.nil ?_
      refine W.ret ?_
      refine bodyQ.r1 (v := .bool _) Try.results5 rfl ?_
      -- path FT
      exact ⟨rfl, h⟩
    · skip
      refine WL.val (run_pickF rfl) rfl rfl ?_
      refine WL.val run_move rfl rfl ?_
      refine WL.val run_move rfl rfl ?_
      refine WL.dec (run_lss rfl rfl) rfl rfl (fun c29 => ?_) (fun c29 => ?_)
      · skip
        refine WL.val (run_pickF rfl) rfl rfl ?_
        refine WL.val run_move rfl rfl ?_
        refine WL.skip rfl rfl ?_
        refine WL.skip rfl rfl ?_
        refine WL.val (run_pickT rfl) rfl rfl ?_
        refine WL.val run_move rfl rfl ?_
        refine WL.skip rfl rfl ?_
        refine WL.skip rfl rfl ?_
        refine WL.val (run_pickT rfl) rfl rfl ?_
        refine WL.val run_move rfl rfl ?_
        refine WL.skip rfl rfl ?_
        refine WL.skip rfl rfl ?_
        refine WL.val (run_pickT rfl) rfl rfl ?_
        refine WL.nil ?_
        refine W.condT rfl ?_
        refine W.seq ?_
        refine W.region ?_
        refine WL.val run_assign rfl rfl ?_
        refine WL.nil ?_
        refine W.ret ?_
        refine bodyQ.r1 (v := .bool _) Try.results5 rfl ?_
        -- path FFT
        exact ⟨rfl, h⟩
      · skip
        refine WL.val (run_pickF rfl) rfl rfl ?_
        refine WL.val run_move rfl rfl ?_
        refine WL.val run_move rfl rfl ?_
        refine WL.dec (run_lss rfl rfl) rfl rfl (fun c33 => ?_) (fun c33 => ?_)
        · skip
          refine WL.val (run_pickF rfl) rfl rfl ?_
          refine WL.val run_move rfl rfl ?_
          refine WL.skip rfl rfl ?_
          refine WL.skip rfl rfl ?_
          refine WL.val (run_pickT rfl) rfl rfl ?_
          refine WL.val run_move rfl rfl ?_
          refine WL.skip rfl rfl ?_
          refine WL.skip rfl rfl ?_
          refine WL.val (run_pickT rfl) rfl rfl ?_
          refine WL.nil ?_
          refine W.condT rfl ?_
          refine W.seq ?_
          refine W.region ?_
          refine WL.val run_assign rfl rfl ?_
          refine WL.nil ?_
          refine W.ret ?_
          refine bodyQ.r1 (v := .bool _) Try.results5 rfl ?_
          -- path FFFT
          exact ⟨rfl, h⟩
        · skip
          refine WL.val (run_pickF rfl) rfl rfl ?_
          refine WL.val run_move rfl rfl ?_
          refine WL.val run_move rfl rfl ?_
          refine WL.dec (run_gtr rfl rfl) rfl rfl (fun c37 => ?_) (fun c37 => ?_)
          · skip
            refine WL.val (run_pickF rfl) rfl rfl ?_
            refine WL.val run_move rfl rfl ?_
            refine WL.skip rfl rfl ?_
            refine WL.skip rfl rfl ?_
            refine WL.val (run_pickT rfl) rfl rfl ?_
            refine WL.nil ?_
            refine W.condT rfl ?_
            refine W.seq ?_
            refine W.region ?_
            refine WL.val run_assign rfl rfl ?_
            refine WL.nil ?_
            refine W.ret ?_
            refine bodyQ.r1 (v := .bool _) Try.results5 rfl ?_
            -- path FFFFT
            exact ⟨rfl, h⟩
          · skip
            refine WL.val (run_pickF rfl) rfl rfl ?_
            refine WL.val run_move rfl rfl ?_
            refine WL.val run_move rfl rfl ?_
            refine WL.val (run_gtr rfl rfl) rfl rfl ?_
            refine WL.val (run_pickF rfl) rfl rfl ?_
            refine WL.nil ?_
            refine W.condIf rfl (fun c7 => ?_) (fun c7 => ?_)
            · skip
              refine W.seq ?_
              refine W.region ?_
              refine WL.val run_assign rfl rfl ?_
              refine WL.nil ?_
              refine W.ret ?_
              refine bodyQ.r1 (v := .bool _) Try.results5 rfl ?_
              -- path FFFFFT
              exact ⟨rfl, h⟩
            · skip
              refine W.skip ?_
              refine W.seq ?_
              have ob_ := Int.eq_ofNat_of_zero_le (show 0 ≤ at_ by omega)
              obtain ⟨p, rfl⟩ := ob_
              have ob_ := Int.eq_ofNat_of_zero_le (show 0 ≤ n by omega)
              obtain ⟨q, rfl⟩ := ob_
              have hd8 : data.length % 8 = 0 := by omega
              have hdl : data.length ≤ 128 := by omega
              refine W.region ?_
              refine WL.eff (eff_call Try.call14 (snew_ok h)) rfl rfl ?_
              rintro _ w hv
              rcases hv with ⟨N, hN, hn1, hn2, b, rfl, h⟩ | ⟨hno, _, _⟩
              rotate_left
              · exfalso; omega
              have ob_ : N = 16 := by omega
              obtain rfl := ob_
              refine WL.val run_move rfl rfl ?_
              refine WL.val (run_extract rfl rfl) rfl rfl ?_
              refine WL.val (run_extract rfl rfl) rfl rfl ?_
              refine WL.val run_assign rfl rfl ?_
              refine WL.val run_assign rfl rfl ?_
              refine WL.nil ?_
              refine W.seq ?_
              refine W.seq ?_
              refine W.region ?_
              refine WL.val run_move rfl rfl ?_
              refine WL.val run_move rfl rfl ?_
              refine WL.eff (eff_call Try.call15 (write_ok (s := newS 16) (at_ := 0) (bs := data) h (Gives.to C))) rfl rfl ?_
              rintro _ w hv
              rcases hv with ⟨p', hp', -, -, -, rfl, h⟩ | ⟨hno, _, _⟩
              rotate_left
              · exact (hno ⟨hd8, (show (0 : Int) ≤ _ ∧ _ ∧ (0 : Int) ≤ 0 ∧ (0 : Int) ≤ ((16 : Nat) : Int) ∧ _ ≤ ((16 : Nat) : Int) - (0 : Int) by omega)⟩).elim
              have hpp : p' = 0 := natEq (k := 0) hp'
              subst hpp
              refine WL.val (run_neqF rfl rfl (by decide)) rfl rfl ?_
              refine WL.nil ?_
              refine W.condF rfl ?_
              refine W.skip ?_
              refine W.seq ?_
              refine W.region ?_
              refine WL.val run_move rfl rfl ?_
              refine WL.val run_move rfl rfl ?_
              refine WL.val run_move rfl rfl ?_
              refine WL.eff (eff_call Try.call18 (unmap_ok (s := writeS (newS 16) 0 data) (at_ := (p : Int)) (n := (q : Int)) h)) rfl rfl ?_
              rintro _ w hv
              rcases hv with ⟨p', q', hp', hq', hpq, -, rfl, h⟩ | ⟨hno, rfl, h⟩
              · skip
                refine WL.val run_assign rfl rfl ?_
                refine WL.nil ?_
                refine W.seq ?_
                refine W.seq ?_
                have hpp : p = p' := Int.ofNat.inj hp'
                have hqq : q = q' := Int.ofNat.inj hq'
                subst hpp
                subst hqq
                have hpq : p + q ≤ 16 := hpq
                have ob_ : ∃ s2, s2 = (unmapS (writeS (newS 16) 0 data) p q) := ⟨_, rfl⟩
                obtain ⟨s2, hs2⟩ := ob_
                rw [← hs2] at h
                have hsN : s2.N = 16 := by rw [hs2]; rfl
                have hbits : ∀ i, i < 16 → hasI s2.m ((i : Nat) : Int) = if p ≤ i ∧ i < p + q then false else decide (8 * i < data.length) := fun i hi => by rw [hasI_nat, hs2, zero_bit hd8 hdl hpq hi]
                have hbyte : ∀ i k, i < 16 → 8 * i ≤ k → k < 8 * i + 8 → (partS s2 0 16)[k]? = if p ≤ i ∧ i < p + q then some 0 else if 8 * i < data.length then data[k]? else some 0 := fun i k hi hk1 hk2 => by rw [hs2, zero_byte hd8 hdl hpq hi hk1 hk2]
                have hlen : (partS s2 0 16).length = 128 := by rw [hs2]; exact zero_len hdl hpq
                have hI16 : inS s2 0 16 := by unfold inS; rw [hsN]; decide
                clear hs2
                refine W.region ?_
                refine WL.val run_move rfl rfl ?_
                refine WL.val run_move rfl rfl ?_
                refine WL.val (run_add rfl rfl (by omega) (by omega)) rfl rfl ?_
                refine WL.val (run_gtrF rfl rfl (by omega)) rfl rfl ?_
                refine WL.nil ?_
                refine W.condF rfl ?_
                refine W.skip ?_
                refine W.seq ?_
                refine W.region ?_
                refine WL.val run_move rfl rfl ?_
                refine WL.eff (eff_call Try.call17 (read_ok (s := s2) (at_ := 0) (n := 16) h)) rfl rfl ?_
                rintro _ w hv
                rcases hv with ⟨p', q', hp', hq', -, -, ar, hv, h⟩ | ⟨hno, _, _⟩
                rotate_left
                · exact (hno hI16).elim
                have hpp : p' = 0 := natEq (k := 0) hp'
                subst hpp
                have hqq : q' = 16 := natEq (k := 16) hq'
                subst hqq
                have ob_ : ∃ B, B = partS s2 0 16 := ⟨_, rfl⟩
                obtain ⟨B, hB⟩ := ob_
                rw [← hB] at hv h hlen hbyte
                subst hv
                refine WL.val run_move rfl rfl ?_
                refine WL.val (run_extract rfl rfl) rfl rfl ?_
                refine WL.val (run_extract rfl rfl) rfl rfl ?_
                refine WL.val run_assign rfl rfl ?_
                refine WL.val run_assign rfl rfl ?_
                refine WL.nil ?_
                refine W.seq ?_
                refine W.seq ?_
                refine W.region ?_
                refine WL.val run_move rfl rfl ?_
                refine WL.val run_move rfl rfl ?_
                refine WL.val (run_add rfl rfl (by omega) (by omega)) rfl rfl ?_
                refine WL.val (run_neqF rfl rfl (by decide)) rfl rfl ?_
                refine WL.nil ?_
                refine W.condF rfl ?_
                refine W.skip ?_
                refine W.seq ?_
                refine W.seq ?_
                refine W.region ?_
                refine WL.val run_assign rfl rfl ?_
                refine WL.nil ?_
                refine W.block ?_
                refine W.loop (fun (i : Nat) env w => ∃ j, env = mkE j [(0, .slice ad data.length cd), (1, .int .i64 (p : Int)), (2, .int .i64 (q : Int)), (7, .pointer (some ⟨b, 0, none⟩)), (10, .slice ar B.length B.length), (12, .int .i64 (i : Int))] ∧ i ≤ 16 ∧ On W0 (OwnB (.slice ar B.length B.length) B :: SpP 55 b s2 :: F) w) (fun i => 16 - i) (0) ?_ ?_
                · exact ⟨_, mkE_of ⟨rfl, rfl, rfl, rfl, rfl, rfl, trivial⟩, Nat.zero_le _, h⟩
                · rintro i env w ⟨j, rfl, hi, h⟩
                  refine W.seq ?_
                  refine W.seq ?_
                  refine W.region ?_
                  refine WL.val run_move rfl rfl ?_
                  refine WL.val (run_lss rfl rfl) rfl rfl ?_
                  refine WL.nil ?_
                  refine W.condIf rfl (fun c33 => ?_) (fun c33 => ?_)
                  · skip
                    refine W.skip ?_
                    refine W.seq ?_
                    refine W.block ?_
                    refine W.seq ?_
                    refine W.region ?_
                    refine WL.val run_move rfl rfl ?_
                    refine WL.val run_move rfl rfl ?_
                    refine WL.dec (run_geq rfl rfl) rfl rfl (fun c76 => ?_) (fun c76 => ?_)
                    · skip
                      refine WL.val run_move rfl rfl ?_
                      refine WL.val run_move rfl rfl ?_
                      refine WL.val run_move rfl rfl ?_
                      refine WL.val run_move rfl rfl ?_
                      refine WL.val (run_addN (m := p) (n := q) rfl rfl (by omega)) rfl rfl ?_
                      refine WL.dec (run_lss rfl rfl) rfl rfl (fun c82 => ?_) (fun c82 => ?_)
                      · skip
                        refine WL.val (run_pickT rfl) rfl rfl ?_
                        refine WL.val run_assign rfl rfl ?_
                        refine WL.nil ?_
                        refine W.seq ?_
                        refine W.region ?_
                        refine WL.val run_move rfl rfl ?_
                        refine WL.val (run_mulN (m := 8) (n := i) rfl rfl (by omega)) rfl rfl ?_
                        refine WL.val run_move rfl rfl ?_
                        refine WL.val (run_lenSlice Try.underlying22 rfl) rfl rfl ?_
                        refine WL.dec (run_lss rfl rfl) rfl rfl (fun c88 => ?_) (fun c88 => ?_)
                        · skip
                          refine WL.val run_assign rfl rfl ?_
                          refine WL.nil ?_
                          refine W.seq ?_
                          refine W.seq ?_
                          refine W.region ?_
                          refine WL.val run_move rfl rfl ?_
                          refine WL.val run_move rfl rfl ?_
                          refine WL.eff (eff_call Try.call19 (mapped_ok (s := s2) (i := (i : Int)) (h.fetch (SpP 55 b s2)))) rfl rfl ?_
                          rintro _ w ⟨hv, h⟩
                          rw [hsN, hbits i (by omega), decide_eq_true (by omega), Bool.true_and, if_pos (by omega)] at hv
                          subst hv
                          refine WL.val run_move rfl rfl ?_
                          refine WL.val run_move rfl rfl ?_
                          refine WL.val run_move rfl rfl ?_
                          refine WL.val (run_not rfl) rfl rfl ?_
                          refine WL.val (run_pickT rfl) rfl rfl ?_
                          refine WL.val (run_neqBoolF Try.underlying4 rfl rfl rfl) rfl rfl ?_
                          refine WL.nil ?_
                          refine W.condF rfl ?_
                          refine W.skip ?_
                          refine W.seq ?_
                          refine W.region ?_
                          refine WL.val run_move rfl rfl ?_
                          refine WL.val (run_mulN (m := 8) (n := i) rfl rfl (by omega)) rfl rfl ?_
                          refine WL.val run_assign rfl rfl ?_
                          refine WL.nil ?_
                          refine W.block ?_
                          refine W.loop (fun (k : Nat) env w => ∃ j, env = mkE j [(0, .slice ad data.length cd), (1, .int .i64 (p : Int)), (2, .int .i64 (q : Int)), (7, .pointer (some ⟨b, 0, none⟩)), (10, .slice ar B.length B.length), (12, .int .i64 (i : Int)), (13, .bool true), (14, .bool true), (15, .int .i64 (k : Int))] ∧ 8 * i ≤ k ∧ k ≤ 8 * i + 8 ∧ On W0 (OwnB (.slice ar B.length B.length) B :: SpP 55 b s2 :: F) w) (fun k => 8 * i + 8 - k) (8 * i) ?_ ?_
                          · exact ⟨_, mkE_of ⟨rfl, rfl, rfl, rfl, rfl, rfl, rfl, rfl, rfl, trivial⟩, Nat.le_refl _, by omega, h.to⟩
                          · rintro k env w ⟨j, rfl, hk1, hk2, h⟩
                            refine W.seq ?_
                            refine W.seq ?_
                            refine W.region ?_
                            refine WL.val run_move rfl rfl ?_
                            refine WL.val run_move rfl rfl ?_
                            refine WL.val (run_mulN (m := 8) (n := i) rfl rfl (by omega)) rfl rfl ?_
                            refine WL.val (run_addN (m := 8 * i) (n := 8) rfl rfl (by omega)) rfl rfl ?_
                            refine WL.val (run_lss rfl rfl) rfl rfl ?_
                            refine WL.nil ?_
                            refine W.condIf rfl (fun c48 => ?_) (fun c48 => ?_)
                            · skip
                              refine W.skip ?_
                              refine W.seq ?_
                              refine W.block ?_
                              refine W.seq ?_
                              have hb := hbyte i k (by omega) hk1 (by omega)
                              rw [if_pos (by omega)] at hb
                              have ob_ := Own.addr h (by omega)
                              obtain ⟨br, or_, har⟩ := ob_
                              subst har
                              refine W.draw Try.follows h (fun w h => ?_)
                              refine WT.pure 0 rfl (by kernel_rfl) (fun w' => run_move) rfl rfl ?_
                              refine WT.pure 1 rfl (by kernel_rfl) (fun w' => run_move) rfl rfl ?_
                              refine WT.skip 2 rfl (by kernel_rfl) rfl rfl ?_
                              refine WT.skip 3 rfl (by kernel_rfl) rfl rfl ?_
                              refine WT.pure 4 rfl (by kernel_rfl) (fun w' => (run_pickT rfl)) rfl rfl ?_
                              refine WT.pure 5 rfl (by kernel_rfl) (fun w' => run_move) rfl rfl ?_
                              refine WT.pure 6 rfl (by kernel_rfl) (fun w' => run_move) rfl rfl ?_
                              refine WT.pure 7 rfl (by kernel_rfl) (fun w' => run_move) rfl rfl ?_
                              refine WT.pure 8 rfl (by kernel_rfl) (fun w' => (run_indexAddr Try.underlying22 Try.sizeOf5 rfl rfl (by omega) (by omega))) rfl rfl ?_
                              refine WT.load1 9 rfl (by kernel_rfl) Try.isAgg5 rfl ((h.cellsO (v := .slice (some ⟨br, or_, none⟩) B.length B.length)).elem (i := k) (vs := [.int .u8 (0 : UInt8).toNat]) (by omega) (bytes_row hb) 0 _ rfl) rfl rfl ?_
                              refine WT.pure 10 rfl (by kernel_rfl) (fun w' => run_neqF rfl rfl (rfl)) rfl rfl ?_
                              refine WT.pure 11 rfl (by kernel_rfl) (fun w' => (run_pickT rfl)) rfl rfl ?_
                              refine WT.pure 12 rfl (by kernel_rfl) (fun w' => run_move) rfl rfl ?_
                              refine WT.pure 13 rfl (by kernel_rfl) (fun w' => run_move) rfl rfl ?_
                              refine WT.pure 14 rfl (by kernel_rfl) (fun w' => (run_not rfl)) rfl rfl ?_
                              refine WT.pure 15 rfl (by kernel_rfl) (fun w' => run_move) rfl rfl ?_
                              refine WT.skip 16 rfl (by kernel_rfl) rfl rfl ?_
                              refine WT.pure 17 rfl (by kernel_rfl) (fun w' => (run_pickF rfl)) rfl rfl ?_
                              refine WT.pure 18 rfl (by kernel_rfl) (fun w' => run_move) rfl rfl ?_
                              refine WT.skip 19 rfl (by kernel_rfl) rfl rfl ?_
                              refine WT.skip 20 rfl (by kernel_rfl) rfl rfl ?_
                              refine WT.skip 21 rfl (by kernel_rfl) rfl rfl ?_
                              refine WT.skip 22 rfl (by kernel_rfl) rfl rfl ?_
                              refine WT.skip 23 rfl (by kernel_rfl) rfl rfl ?_
                              refine WT.skip 24 rfl (by kernel_rfl) rfl rfl ?_
                              refine WT.skip 25 rfl (by kernel_rfl) rfl rfl ?_
                              refine WT.skip 26 rfl (by kernel_rfl) rfl rfl ?_
                              refine WT.skip 27 rfl (by kernel_rfl) rfl rfl ?_
                              refine WT.pure 28 rfl (by kernel_rfl) (fun w' => (run_pickF rfl)) rfl rfl ?_
                              refine WT.pure 29 rfl (by kernel_rfl) (fun w' => (run_pickF rfl)) rfl rfl ?_
                              refine WT.done (by kernel_rfl) ?_
                              refine W.condF rfl ?_
                              refine W.skip ?_
                              refine W.region ?_
                              refine WL.val run_move rfl rfl ?_
                              refine WL.val (run_incN rfl rfl (by omega)) rfl rfl ?_
                              refine WL.val run_assign rfl rfl ?_
                              refine WL.nil ?_
                              -- round, path FFFFFFTLTTTTLT
                              exact ⟨k + 1, ⟨_, mkE_of ⟨rfl, rfl, rfl, rfl, rfl, rfl, rfl, rfl, rfl, trivial⟩, by omega, by omega, h⟩, by show 8 * i + 8 - (k + 1) < 8 * i + 8 - k; omega⟩
                            · skip
                              refine W.exit ?_
                              refine W.region ?_
                              refine WL.val run_move rfl rfl ?_
                              refine WL.val (run_incN rfl rfl (by omega)) rfl rfl ?_
                              refine WL.val run_assign rfl rfl ?_
                              refine WL.nil ?_
                              -- round, path FFFFFFTLTTTTLF
                              exact ⟨i + 1, ⟨_, mkE_of ⟨rfl, rfl, rfl, rfl, rfl, rfl, trivial⟩, by omega, h⟩, by show 16 - (i + 1) < 16 - i; omega⟩
                        · skip
                          refine WL.val run_assign rfl rfl ?_
                          refine WL.nil ?_
                          refine W.seq ?_
                          refine W.seq ?_
                          refine W.region ?_
                          refine WL.val run_move rfl rfl ?_
                          refine WL.val run_move rfl rfl ?_
                          refine WL.eff (eff_call Try.call19 (mapped_ok (s := s2) (i := (i : Int)) (h.fetch (SpP 55 b s2)))) rfl rfl ?_
                          rintro _ w ⟨hv, h⟩
                          rw [hsN, hbits i (by omega), decide_eq_true (by omega), Bool.true_and, if_pos (by omega)] at hv
                          subst hv
                          refine WL.val run_move rfl rfl ?_
                          refine WL.val run_move rfl rfl ?_
                          refine WL.skip rfl rfl ?_
                          refine WL.skip rfl rfl ?_
                          refine WL.val (run_pickF rfl) rfl rfl ?_
                          refine WL.val (run_neqBoolF Try.underlying4 rfl rfl rfl) rfl rfl ?_
                          refine WL.nil ?_
                          refine W.condF rfl ?_
                          refine W.skip ?_
                          refine W.seq ?_
                          refine W.region ?_
                          refine WL.val run_move rfl rfl ?_
                          refine WL.val (run_mulN (m := 8) (n := i) rfl rfl (by omega)) rfl rfl ?_
                          refine WL.val run_assign rfl rfl ?_
                          refine WL.nil ?_
                          refine W.block ?_
                          refine W.loop (fun (k : Nat) env w => ∃ j, env = mkE j [(0, .slice ad data.length cd), (1, .int .i64 (p : Int)), (2, .int .i64 (q : Int)), (7, .pointer (some ⟨b, 0, none⟩)), (10, .slice ar B.length B.length), (12, .int .i64 (i : Int)), (13, .bool true), (14, .bool false), (15, .int .i64 (k : Int))] ∧ 8 * i ≤ k ∧ k ≤ 8 * i + 8 ∧ On W0 (OwnB (.slice ar B.length B.length) B :: SpP 55 b s2 :: F) w) (fun k => 8 * i + 8 - k) (8 * i) ?_ ?_
                          · exact ⟨_, mkE_of ⟨rfl, rfl, rfl, rfl, rfl, rfl, rfl, rfl, rfl, trivial⟩, Nat.le_refl _, by omega, h.to⟩
                          · rintro k env w ⟨j, rfl, hk1, hk2, h⟩
                            refine W.seq ?_
                            refine W.seq ?_
                            refine W.region ?_
                            refine WL.val run_move rfl rfl ?_
                            refine WL.val run_move rfl rfl ?_
                            refine WL.val (run_mulN (m := 8) (n := i) rfl rfl (by omega)) rfl rfl ?_
                            refine WL.val (run_addN (m := 8 * i) (n := 8) rfl rfl (by omega)) rfl rfl ?_
                            refine WL.val (run_lss rfl rfl) rfl rfl ?_
                            refine WL.nil ?_
                            refine W.condIf rfl (fun c48 => ?_) (fun c48 => ?_)
                            · skip
                              refine W.skip ?_
                              refine W.seq ?_
                              refine W.block ?_
                              refine W.seq ?_
                              have hb := hbyte i k (by omega) hk1 (by omega)
                              rw [if_pos (by omega)] at hb
                              have ob_ := Own.addr h (by omega)
                              obtain ⟨br, or_, har⟩ := ob_
                              subst har
                              refine W.draw Try.follows h (fun w h => ?_)
                              refine WT.pure 0 rfl (by kernel_rfl) (fun w' => run_move) rfl rfl ?_
                              refine WT.pure 1 rfl (by kernel_rfl) (fun w' => run_move) rfl rfl ?_
                              refine WT.skip 2 rfl (by kernel_rfl) rfl rfl ?_
                              refine WT.skip 3 rfl (by kernel_rfl) rfl rfl ?_
                              refine WT.pure 4 rfl (by kernel_rfl) (fun w' => (run_pickT rfl)) rfl rfl ?_
                              refine WT.pure 5 rfl (by kernel_rfl) (fun w' => run_move) rfl rfl ?_
                              refine WT.pure 6 rfl (by kernel_rfl) (fun w' => run_move) rfl rfl ?_
                              refine WT.pure 7 rfl (by kernel_rfl) (fun w' => run_move) rfl rfl ?_
                              refine WT.pure 8 rfl (by kernel_rfl) (fun w' => (run_indexAddr Try.underlying22 Try.sizeOf5 rfl rfl (by omega) (by omega))) rfl rfl ?_
                              refine WT.load1 9 rfl (by kernel_rfl) Try.isAgg5 rfl ((h.cellsO (v := .slice (some ⟨br, or_, none⟩) B.length B.length)).elem (i := k) (vs := [.int .u8 (0 : UInt8).toNat]) (by omega) (bytes_row hb) 0 _ rfl) rfl rfl ?_
                              refine WT.pure 10 rfl (by kernel_rfl) (fun w' => run_neqF rfl rfl (rfl)) rfl rfl ?_
                              refine WT.pure 11 rfl (by kernel_rfl) (fun w' => (run_pickT rfl)) rfl rfl ?_
                              refine WT.pure 12 rfl (by kernel_rfl) (fun w' => run_move) rfl rfl ?_
                              refine WT.pure 13 rfl (by kernel_rfl) (fun w' => run_move) rfl rfl ?_
                              refine WT.pure 14 rfl (by kernel_rfl) (fun w' => (run_not rfl)) rfl rfl ?_
                              refine WT.pure 15 rfl (by kernel_rfl) (fun w' => run_move) rfl rfl ?_
                              refine WT.skip 16 rfl (by kernel_rfl) rfl rfl ?_
                              refine WT.pure 17 rfl (by kernel_rfl) (fun w' => (run_pickF rfl)) rfl rfl ?_
                              refine WT.pure 18 rfl (by kernel_rfl) (fun w' => run_move) rfl rfl ?_
                              refine WT.skip 19 rfl (by kernel_rfl) rfl rfl ?_
                              refine WT.skip 20 rfl (by kernel_rfl) rfl rfl ?_
                              refine WT.skip 21 rfl (by kernel_rfl) rfl rfl ?_
                              refine WT.skip 22 rfl (by kernel_rfl) rfl rfl ?_
                              refine WT.skip 23 rfl (by kernel_rfl) rfl rfl ?_
                              refine WT.skip 24 rfl (by kernel_rfl) rfl rfl ?_
                              refine WT.skip 25 rfl (by kernel_rfl) rfl rfl ?_
                              refine WT.skip 26 rfl (by kernel_rfl) rfl rfl ?_
                              refine WT.skip 27 rfl (by kernel_rfl) rfl rfl ?_
                              refine WT.pure 28 rfl (by kernel_rfl) (fun w' => (run_pickF rfl)) rfl rfl ?_
                              refine WT.pure 29 rfl (by kernel_rfl) (fun w' => (run_pickF rfl)) rfl rfl ?_
                              refine WT.done (by kernel_rfl) ?_
                              refine W.condF rfl ?_
                              refine W.skip ?_
                              refine W.region ?_
                              refine WL.val run_move rfl rfl ?_
                              refine WL.val (run_incN rfl rfl (by omega)) rfl rfl ?_
                              refine WL.val run_assign rfl rfl ?_
                              refine WL.nil ?_
                              -- round, path FFFFFFTLTTTFLT
                              exact ⟨k + 1, ⟨_, mkE_of ⟨rfl, rfl, rfl, rfl, rfl, rfl, rfl, rfl, rfl, trivial⟩, by omega, by omega, h⟩, by show 8 * i + 8 - (k + 1) < 8 * i + 8 - k; omega⟩
                            · skip
                              refine W.exit ?_
                              refine W.region ?_
                              refine WL.val run_move rfl rfl ?_
                              refine WL.val (run_incN rfl rfl (by omega)) rfl rfl ?_
                              refine WL.val run_assign rfl rfl ?_
                              refine WL.nil ?_
                              -- round, path FFFFFFTLTTTFLF
                              exact ⟨i + 1, ⟨_, mkE_of ⟨rfl, rfl, rfl, rfl, rfl, rfl, trivial⟩, by omega, h⟩, by show 16 - (i + 1) < 16 - i; omega⟩
                      · skip
                        refine WL.val (run_pickT rfl) rfl rfl ?_
                        refine WL.val run_assign rfl rfl ?_
                        refine WL.nil ?_
                        refine W.seq ?_
                        refine W.region ?_
                        refine WL.val run_move rfl rfl ?_
                        refine WL.val (run_mulN (m := 8) (n := i) rfl rfl (by omega)) rfl rfl ?_
                        refine WL.val run_move rfl rfl ?_
                        refine WL.val (run_lenSlice Try.underlying22 rfl) rfl rfl ?_
                        refine WL.dec (run_lss rfl rfl) rfl rfl (fun c88 => ?_) (fun c88 => ?_)
                        · skip
                          refine WL.val run_assign rfl rfl ?_
                          refine WL.nil ?_
                          refine W.seq ?_
                          refine W.seq ?_
                          refine W.region ?_
                          refine WL.val run_move rfl rfl ?_
                          refine WL.val run_move rfl rfl ?_
                          refine WL.eff (eff_call Try.call19 (mapped_ok (s := s2) (i := (i : Int)) (h.fetch (SpP 55 b s2)))) rfl rfl ?_
                          rintro _ w ⟨hv, h⟩
                          rw [hsN, hbits i (by omega), decide_eq_true (by omega), Bool.true_and, if_neg (by omega), decide_eq_true (by omega)] at hv
                          subst hv
                          refine WL.val run_move rfl rfl ?_
                          refine WL.val run_move rfl rfl ?_
                          refine WL.val run_move rfl rfl ?_
                          refine WL.val (run_not rfl) rfl rfl ?_
                          refine WL.val (run_pickT rfl) rfl rfl ?_
                          refine WL.val (run_neqBoolF Try.underlying4 rfl rfl rfl) rfl rfl ?_
                          refine WL.nil ?_
                          refine W.condF rfl ?_
                          refine W.skip ?_
                          refine W.seq ?_
                          refine W.region ?_
                          refine WL.val run_move rfl rfl ?_
                          refine WL.val (run_mulN (m := 8) (n := i) rfl rfl (by omega)) rfl rfl ?_
                          refine WL.val run_assign rfl rfl ?_
                          refine WL.nil ?_
                          refine W.block ?_
                          refine W.loop (fun (k : Nat) env w => ∃ j, env = mkE j [(0, .slice ad data.length cd), (1, .int .i64 (p : Int)), (2, .int .i64 (q : Int)), (7, .pointer (some ⟨b, 0, none⟩)), (10, .slice ar B.length B.length), (12, .int .i64 (i : Int)), (13, .bool false), (14, .bool true), (15, .int .i64 (k : Int))] ∧ 8 * i ≤ k ∧ k ≤ 8 * i + 8 ∧ On W0 (OwnB (.slice ar B.length B.length) B :: SpP 55 b s2 :: F) w) (fun k => 8 * i + 8 - k) (8 * i) ?_ ?_
                          · exact ⟨_, mkE_of ⟨rfl, rfl, rfl, rfl, rfl, rfl, rfl, rfl, rfl, trivial⟩, Nat.le_refl _, by omega, h.to⟩
                          · rintro k env w ⟨j, rfl, hk1, hk2, h⟩
                            refine W.seq ?_
                            refine W.seq ?_
                            refine W.region ?_
                            refine WL.val run_move rfl rfl ?_
                            refine WL.val run_move rfl rfl ?_
                            refine WL.val (run_mulN (m := 8) (n := i) rfl rfl (by omega)) rfl rfl ?_
                            refine WL.val (run_addN (m := 8 * i) (n := 8) rfl rfl (by omega)) rfl rfl ?_
                            refine WL.val (run_lss rfl rfl) rfl rfl ?_
                            refine WL.nil ?_
                            refine W.condIf rfl (fun c48 => ?_) (fun c48 => ?_)
                            · skip
                              refine W.skip ?_
                              refine W.seq ?_
                              refine W.block ?_
                              refine W.seq ?_
                              have hb := hbyte i k (by omega) hk1 (by omega)
                              rw [if_neg (by omega), if_pos (by omega)] at hb
                              have ob_ := Own.addr h (by omega)
                              obtain ⟨br, or_, har⟩ := ob_
                              subst har
                              have ob_ : ∃ y, data[k]? = some y := ⟨data[k]'(by omega), by simp⟩
                              obtain ⟨y, hy⟩ := ob_
                              have ob_ := (h.readsTo C).addr (by omega)
                              obtain ⟨bd, od, rfl⟩ := ob_
                              rw [hy] at hb
                              refine W.draw Try.follows h (fun w h => ?_)
                              refine WT.pure 0 rfl (by kernel_rfl) (fun w' => run_move) rfl rfl ?_
                              refine WT.pure 1 rfl (by kernel_rfl) (fun w' => run_move) rfl rfl ?_
                              refine WT.pure 2 rfl (by kernel_rfl) (fun w' => run_move) rfl rfl ?_
                              refine WT.pure 3 rfl (by kernel_rfl) (fun w' => (run_not rfl)) rfl rfl ?_
                              refine WT.pure 4 rfl (by kernel_rfl) (fun w' => (run_pickF rfl)) rfl rfl ?_
                              refine WT.pure 5 rfl (by kernel_rfl) (fun w' => run_move) rfl rfl ?_
                              refine WT.skip 6 rfl (by kernel_rfl) rfl rfl ?_
                              refine WT.skip 7 rfl (by kernel_rfl) rfl rfl ?_
                              refine WT.skip 8 rfl (by kernel_rfl) rfl rfl ?_
                              refine WT.skip 9 rfl (by kernel_rfl) rfl rfl ?_
                              refine WT.skip 10 rfl (by kernel_rfl) rfl rfl ?_
                              refine WT.pure 11 rfl (by kernel_rfl) (fun w' => (run_pickF rfl)) rfl rfl ?_
                              refine WT.pure 12 rfl (by kernel_rfl) (fun w' => run_move) rfl rfl ?_
                              refine WT.pure 13 rfl (by kernel_rfl) (fun w' => run_move) rfl rfl ?_
                              refine WT.pure 14 rfl (by kernel_rfl) (fun w' => (run_not rfl)) rfl rfl ?_
                              refine WT.pure 15 rfl (by kernel_rfl) (fun w' => run_move) rfl rfl ?_
                              refine WT.pure 16 rfl (by kernel_rfl) (fun w' => run_move) rfl rfl ?_
                              refine WT.pure 17 rfl (by kernel_rfl) (fun w' => (run_pickT rfl)) rfl rfl ?_
                              refine WT.pure 18 rfl (by kernel_rfl) (fun w' => run_move) rfl rfl ?_
                              refine WT.pure 19 rfl (by kernel_rfl) (fun w' => run_move) rfl rfl ?_
                              refine WT.pure 20 rfl (by kernel_rfl) (fun w' => run_move) rfl rfl ?_
                              refine WT.pure 21 rfl (by kernel_rfl) (fun w' => (run_indexAddr Try.underlying22 Try.sizeOf5 rfl rfl (by omega) (by omega))) rfl rfl ?_
                              refine WT.load1 22 rfl (by kernel_rfl) Try.isAgg5 rfl ((h.cellsO (v := .slice (some ⟨br, or_, none⟩) B.length B.length)).elem (i := k) (vs := [.int .u8 y.toNat]) (by omega) (bytes_row hb) 0 _ rfl) rfl rfl ?_
                              refine WT.pure 23 rfl (by kernel_rfl) (fun w' => run_move) rfl rfl ?_
                              refine WT.pure 24 rfl (by kernel_rfl) (fun w' => run_move) rfl rfl ?_
                              refine WT.pure 25 rfl (by kernel_rfl) (fun w' => (run_indexAddr Try.underlying22 Try.sizeOf5 rfl rfl (by omega) (by omega))) rfl rfl ?_
                              refine WT.load1 26 rfl (by kernel_rfl) Try.isAgg5 rfl ((h.readsTo C).elem (i := k) (vs := [.int .u8 y.toNat]) (by omega) (bytes_row hy) 0 _ rfl) rfl rfl ?_
                              refine WT.pure 27 rfl (by kernel_rfl) (fun w' => run_neqF rfl rfl (rfl)) rfl rfl ?_
                              refine WT.pure 28 rfl (by kernel_rfl) (fun w' => (run_pickT rfl)) rfl rfl ?_
                              refine WT.pure 29 rfl (by kernel_rfl) (fun w' => (run_pickF rfl)) rfl rfl ?_
                              refine WT.done (by kernel_rfl) ?_
                              refine W.condF rfl ?_
                              refine W.skip ?_
                              refine W.region ?_
                              refine WL.val run_move rfl rfl ?_
                              refine WL.val (run_incN rfl rfl (by omega)) rfl rfl ?_
                              refine WL.val run_assign rfl rfl ?_
                              refine WL.nil ?_
                              -- round, path FFFFFFTLTTFTLT
                              exact ⟨k + 1, ⟨_, mkE_of ⟨rfl, rfl, rfl, rfl, rfl, rfl, rfl, rfl, rfl, trivial⟩, by omega, by omega, h⟩, by show 8 * i + 8 - (k + 1) < 8 * i + 8 - k; omega⟩
                            · skip
                              refine W.exit ?_
                              refine W.region ?_
                              refine WL.val run_move rfl rfl ?_
                              refine WL.val (run_incN rfl rfl (by omega)) rfl rfl ?_
                              refine WL.val run_assign rfl rfl ?_
                              refine WL.nil ?_
                              -- round, path FFFFFFTLTTFTLF
                              exact ⟨i + 1, ⟨_, mkE_of ⟨rfl, rfl, rfl, rfl, rfl, rfl, trivial⟩, by omega, h⟩, by show 16 - (i + 1) < 16 - i; omega⟩
                        · skip
                          refine WL.val run_assign rfl rfl ?_
                          refine WL.nil ?_
                          refine W.seq ?_
                          refine W.seq ?_
                          refine W.region ?_
                          refine WL.val run_move rfl rfl ?_
                          refine WL.val run_move rfl rfl ?_
                          refine WL.eff (eff_call Try.call19 (mapped_ok (s := s2) (i := (i : Int)) (h.fetch (SpP 55 b s2)))) rfl rfl ?_
                          rintro _ w ⟨hv, h⟩
                          rw [hsN, hbits i (by omega), decide_eq_true (by omega), Bool.true_and, if_neg (by omega), decide_eq_false (by omega)] at hv
                          subst hv
                          refine WL.val run_move rfl rfl ?_
                          refine WL.val run_move rfl rfl ?_
                          refine WL.skip rfl rfl ?_
                          refine WL.skip rfl rfl ?_
                          refine WL.val (run_pickF rfl) rfl rfl ?_
                          refine WL.val (run_neqBoolF Try.underlying4 rfl rfl rfl) rfl rfl ?_
                          refine WL.nil ?_
                          refine W.condF rfl ?_
                          refine W.skip ?_
                          refine W.seq ?_
                          refine W.region ?_
                          refine WL.val run_move rfl rfl ?_
                          refine WL.val (run_mulN (m := 8) (n := i) rfl rfl (by omega)) rfl rfl ?_
                          refine WL.val run_assign rfl rfl ?_
                          refine WL.nil ?_
                          refine W.block ?_
                          refine W.loop (fun (k : Nat) env w => ∃ j, env = mkE j [(0, .slice ad data.length cd), (1, .int .i64 (p : Int)), (2, .int .i64 (q : Int)), (7, .pointer (some ⟨b, 0, none⟩)), (10, .slice ar B.length B.length), (12, .int .i64 (i : Int)), (13, .bool false), (14, .bool false), (15, .int .i64 (k : Int))] ∧ 8 * i ≤ k ∧ k ≤ 8 * i + 8 ∧ On W0 (OwnB (.slice ar B.length B.length) B :: SpP 55 b s2 :: F) w) (fun k => 8 * i + 8 - k) (8 * i) ?_ ?_
                          · exact ⟨_, mkE_of ⟨rfl, rfl, rfl, rfl, rfl, rfl, rfl, rfl, rfl, trivial⟩, Nat.le_refl _, by omega, h.to⟩
                          · rintro k env w ⟨j, rfl, hk1, hk2, h⟩
                            refine W.seq ?_
                            refine W.seq ?_
                            refine W.region ?_
                            refine WL.val run_move rfl rfl ?_
                            refine WL.val run_move rfl rfl ?_
                            refine WL.val (run_mulN (m := 8) (n := i) rfl rfl (by omega)) rfl rfl ?_
                            refine WL.val (run_addN (m := 8 * i) (n := 8) rfl rfl (by omega)) rfl rfl ?_
                            refine WL.val (run_lss rfl rfl) rfl rfl ?_
                            refine WL.nil ?_
                            refine W.condIf rfl (fun c48 => ?_) (fun c48 => ?_)
                            · skip
                              refine W.skip ?_
                              refine W.seq ?_
                              refine W.block ?_
                              refine W.seq ?_
                              have hb := hbyte i k (by omega) hk1 (by omega)
                              rw [if_neg (by omega), if_neg (by omega)] at hb
                              have ob_ := Own.addr h (by omega)
                              obtain ⟨br, or_, har⟩ := ob_
                              subst har
                              refine W.draw Try.follows h (fun w h => ?_)
                              refine WT.pure 0 rfl (by kernel_rfl) (fun w' => run_move) rfl rfl ?_
                              refine WT.pure 1 rfl (by kernel_rfl) (fun w' => run_move) rfl rfl ?_
                              refine WT.pure 2 rfl (by kernel_rfl) (fun w' => run_move) rfl rfl ?_
                              refine WT.pure 3 rfl (by kernel_rfl) (fun w' => (run_not rfl)) rfl rfl ?_
                              refine WT.pure 4 rfl (by kernel_rfl) (fun w' => (run_pickF rfl)) rfl rfl ?_
                              refine WT.pure 5 rfl (by kernel_rfl) (fun w' => run_move) rfl rfl ?_
                              refine WT.pure 6 rfl (by kernel_rfl) (fun w' => run_move) rfl rfl ?_
                              refine WT.pure 7 rfl (by kernel_rfl) (fun w' => run_move) rfl rfl ?_
                              refine WT.pure 8 rfl (by kernel_rfl) (fun w' => (run_indexAddr Try.underlying22 Try.sizeOf5 rfl rfl (by omega) (by omega))) rfl rfl ?_
                              refine WT.load1 9 rfl (by kernel_rfl) Try.isAgg5 rfl ((h.cellsO (v := .slice (some ⟨br, or_, none⟩) B.length B.length)).elem (i := k) (vs := [.int .u8 (0 : UInt8).toNat]) (by omega) (bytes_row hb) 0 _ rfl) rfl rfl ?_
                              refine WT.pure 10 rfl (by kernel_rfl) (fun w' => run_neqF rfl rfl (rfl)) rfl rfl ?_
                              refine WT.pure 11 rfl (by kernel_rfl) (fun w' => (run_pickT rfl)) rfl rfl ?_
                              refine WT.pure 12 rfl (by kernel_rfl) (fun w' => run_move) rfl rfl ?_
                              refine WT.pure 13 rfl (by kernel_rfl) (fun w' => run_move) rfl rfl ?_
                              refine WT.pure 14 rfl (by kernel_rfl) (fun w' => (run_not rfl)) rfl rfl ?_
                              refine WT.pure 15 rfl (by kernel_rfl) (fun w' => run_move) rfl rfl ?_
                              refine WT.pure 16 rfl (by kernel_rfl) (fun w' => run_move) rfl rfl ?_
                              refine WT.pure 17 rfl (by kernel_rfl) (fun w' => (run_pickT rfl)) rfl rfl ?_
                              refine WT.pure 18 rfl (by kernel_rfl) (fun w' => run_move) rfl rfl ?_
                              refine WT.skip 19 rfl (by kernel_rfl) rfl rfl ?_
                              refine WT.skip 20 rfl (by kernel_rfl) rfl rfl ?_
                              refine WT.skip 21 rfl (by kernel_rfl) rfl rfl ?_
                              refine WT.skip 22 rfl (by kernel_rfl) rfl rfl ?_
                              refine WT.skip 23 rfl (by kernel_rfl) rfl rfl ?_
                              refine WT.skip 24 rfl (by kernel_rfl) rfl rfl ?_
                              refine WT.skip 25 rfl (by kernel_rfl) rfl rfl ?_
                              refine WT.skip 26 rfl (by kernel_rfl) rfl rfl ?_
                              refine WT.skip 27 rfl (by kernel_rfl) rfl rfl ?_
                              refine WT.pure 28 rfl (by kernel_rfl) (fun w' => (run_pickF rfl)) rfl rfl ?_
                              refine WT.pure 29 rfl (by kernel_rfl) (fun w' => (run_pickF rfl)) rfl rfl ?_
                              refine WT.done (by kernel_rfl) ?_
                              refine W.condF rfl ?_
                              refine W.skip ?_
                              refine W.region ?_
                              refine WL.val run_move rfl rfl ?_
                              refine WL.val (run_incN rfl rfl (by omega)) rfl rfl ?_
                              refine WL.val run_assign rfl rfl ?_
                              refine WL.nil ?_
                              -- round, path FFFFFFTLTTFFLT
                              exact ⟨k + 1, ⟨_, mkE_of ⟨rfl, rfl, rfl, rfl, rfl, rfl, rfl, rfl, rfl, trivial⟩, by omega, by omega, h⟩, by show 8 * i + 8 - (k + 1) < 8 * i + 8 - k; omega⟩
                            · skip
                              refine W.exit ?_
                              refine W.region ?_
                              refine WL.val run_move rfl rfl ?_
                              refine WL.val (run_incN rfl rfl (by omega)) rfl rfl ?_
                              refine WL.val run_assign rfl rfl ?_
                              refine WL.nil ?_
                              -- round, path FFFFFFTLTTFFLF
                              exact ⟨i + 1, ⟨_, mkE_of ⟨rfl, rfl, rfl, rfl, rfl, rfl, trivial⟩, by omega, h⟩, by show 16 - (i + 1) < 16 - i; omega⟩
                    · skip
                      refine WL.val run_move rfl rfl ?_
                      refine WL.skip rfl rfl ?_
                      refine WL.skip rfl rfl ?_
                      refine WL.skip rfl rfl ?_
                      refine WL.skip rfl rfl ?_
                      refine WL.skip rfl rfl ?_
                      refine WL.val (run_pickF rfl) rfl rfl ?_
                      refine WL.val run_assign rfl rfl ?_
                      refine WL.nil ?_
                      refine W.seq ?_
                      refine W.region ?_
                      refine WL.val run_move rfl rfl ?_
                      refine WL.val (run_mulN (m := 8) (n := i) rfl rfl (by omega)) rfl rfl ?_
                      refine WL.val run_move rfl rfl ?_
                      refine WL.val (run_lenSlice Try.underlying22 rfl) rfl rfl ?_
                      refine WL.dec (run_lss rfl rfl) rfl rfl (fun c88 => ?_) (fun c88 => ?_)
                      · skip
                        refine WL.val run_assign rfl rfl ?_
                        refine WL.nil ?_
                        refine W.seq ?_
                        refine W.seq ?_
                        refine W.region ?_
                        refine WL.val run_move rfl rfl ?_
                        refine WL.val run_move rfl rfl ?_
                        refine WL.eff (eff_call Try.call19 (mapped_ok (s := s2) (i := (i : Int)) (h.fetch (SpP 55 b s2)))) rfl rfl ?_
                        rintro _ w ⟨hv, h⟩
                        rw [hsN, hbits i (by omega), decide_eq_true (by omega), Bool.true_and, if_neg (by omega), decide_eq_true (by omega)] at hv
                        subst hv
                        refine WL.val run_move rfl rfl ?_
                        refine WL.val run_move rfl rfl ?_
                        refine WL.val run_move rfl rfl ?_
                        refine WL.val (run_not rfl) rfl rfl ?_
                        refine WL.val (run_pickT rfl) rfl rfl ?_
                        refine WL.val (run_neqBoolF Try.underlying4 rfl rfl rfl) rfl rfl ?_
                        refine WL.nil ?_
                        refine W.condF rfl ?_
                        refine W.skip ?_
                        refine W.seq ?_
                        refine W.region ?_
                        refine WL.val run_move rfl rfl ?_
                        refine WL.val (run_mulN (m := 8) (n := i) rfl rfl (by omega)) rfl rfl ?_
                        refine WL.val run_assign rfl rfl ?_
                        refine WL.nil ?_
                        refine W.block ?_
                        refine W.loop (fun (k : Nat) env w => ∃ j, env = mkE j [(0, .slice ad data.length cd), (1, .int .i64 (p : Int)), (2, .int .i64 (q : Int)), (7, .pointer (some ⟨b, 0, none⟩)), (10, .slice ar B.length B.length), (12, .int .i64 (i : Int)), (13, .bool false), (14, .bool true), (15, .int .i64 (k : Int))] ∧ 8 * i ≤ k ∧ k ≤ 8 * i + 8 ∧ On W0 (OwnB (.slice ar B.length B.length) B :: SpP 55 b s2 :: F) w) (fun k => 8 * i + 8 - k) (8 * i) ?_ ?_
                        · exact ⟨_, mkE_of ⟨rfl, rfl, rfl, rfl, rfl, rfl, rfl, rfl, rfl, trivial⟩, Nat.le_refl _, by omega, h.to⟩
                        · rintro k env w ⟨j, rfl, hk1, hk2, h⟩
                          refine W.seq ?_
                          refine W.seq ?_
                          refine W.region ?_
                          refine WL.val run_move rfl rfl ?_
                          refine WL.val run_move rfl rfl ?_
                          refine WL.val (run_mulN (m := 8) (n := i) rfl rfl (by omega)) rfl rfl ?_
                          refine WL.val (run_addN (m := 8 * i) (n := 8) rfl rfl (by omega)) rfl rfl ?_
                          refine WL.val (run_lss rfl rfl) rfl rfl ?_
                          refine WL.nil ?_
                          refine W.condIf rfl (fun c48 => ?_) (fun c48 => ?_)
                          · skip
                            refine W.skip ?_
                            refine W.seq ?_
                            refine W.block ?_
                            refine W.seq ?_
                            have hb := hbyte i k (by omega) hk1 (by omega)
                            rw [if_neg (by omega), if_pos (by omega)] at hb
                            have ob_ := Own.addr h (by omega)
                            obtain ⟨br, or_, har⟩ := ob_
                            subst har
                            have ob_ : ∃ y, data[k]? = some y := ⟨data[k]'(by omega), by simp⟩
                            obtain ⟨y, hy⟩ := ob_
                            have ob_ := (h.readsTo C).addr (by omega)
                            obtain ⟨bd, od, rfl⟩ := ob_
                            rw [hy] at hb
                            refine W.draw Try.follows h (fun w h => ?_)
                            refine WT.pure 0 rfl (by kernel_rfl) (fun w' => run_move) rfl rfl ?_
                            refine WT.pure 1 rfl (by kernel_rfl) (fun w' => run_move) rfl rfl ?_
                            refine WT.pure 2 rfl (by kernel_rfl) (fun w' => run_move) rfl rfl ?_
                            refine WT.pure 3 rfl (by kernel_rfl) (fun w' => (run_not rfl)) rfl rfl ?_
                            refine WT.pure 4 rfl (by kernel_rfl) (fun w' => (run_pickF rfl)) rfl rfl ?_
                            refine WT.pure 5 rfl (by kernel_rfl) (fun w' => run_move) rfl rfl ?_
                            refine WT.skip 6 rfl (by kernel_rfl) rfl rfl ?_
                            refine WT.skip 7 rfl (by kernel_rfl) rfl rfl ?_
                            refine WT.skip 8 rfl (by kernel_rfl) rfl rfl ?_
                            refine WT.skip 9 rfl (by kernel_rfl) rfl rfl ?_
                            refine WT.skip 10 rfl (by kernel_rfl) rfl rfl ?_
                            refine WT.pure 11 rfl (by kernel_rfl) (fun w' => (run_pickF rfl)) rfl rfl ?_
                            refine WT.pure 12 rfl (by kernel_rfl) (fun w' => run_move) rfl rfl ?_
                            refine WT.pure 13 rfl (by kernel_rfl) (fun w' => run_move) rfl rfl ?_
                            refine WT.pure 14 rfl (by kernel_rfl) (fun w' => (run_not rfl)) rfl rfl ?_
                            refine WT.pure 15 rfl (by kernel_rfl) (fun w' => run_move) rfl rfl ?_
                            refine WT.pure 16 rfl (by kernel_rfl) (fun w' => run_move) rfl rfl ?_
                            refine WT.pure 17 rfl (by kernel_rfl) (fun w' => (run_pickT rfl)) rfl rfl ?_
                            refine WT.pure 18 rfl (by kernel_rfl) (fun w' => run_move) rfl rfl ?_
                            refine WT.pure 19 rfl (by kernel_rfl) (fun w' => run_move) rfl rfl ?_
                            refine WT.pure 20 rfl (by kernel_rfl) (fun w' => run_move) rfl rfl ?_
                            refine WT.pure 21 rfl (by kernel_rfl) (fun w' => (run_indexAddr Try.underlying22 Try.sizeOf5 rfl rfl (by omega) (by omega))) rfl rfl ?_
                            refine WT.load1 22 rfl (by kernel_rfl) Try.isAgg5 rfl ((h.cellsO (v := .slice (some ⟨br, or_, none⟩) B.length B.length)).elem (i := k) (vs := [.int .u8 y.toNat]) (by omega) (bytes_row hb) 0 _ rfl) rfl rfl ?_
                            refine WT.pure 23 rfl (by kernel_rfl) (fun w' => run_move) rfl rfl ?_
                            refine WT.pure 24 rfl (by kernel_rfl) (fun w' => run_move) rfl rfl ?_
                            refine WT.pure 25 rfl (by kernel_rfl) (fun w' => (run_indexAddr Try.underlying22 Try.sizeOf5 rfl rfl (by omega) (by omega))) rfl rfl ?_
                            refine WT.load1 26 rfl (by kernel_rfl) Try.isAgg5 rfl ((h.readsTo C).elem (i := k) (vs := [.int .u8 y.toNat]) (by omega) (bytes_row hy) 0 _ rfl) rfl rfl ?_
                            refine WT.pure 27 rfl (by kernel_rfl) (fun w' => run_neqF rfl rfl (rfl)) rfl rfl ?_
                            refine WT.pure 28 rfl (by kernel_rfl) (fun w' => (run_pickT rfl)) rfl rfl ?_
                            refine WT.pure 29 rfl (by kernel_rfl) (fun w' => (run_pickF rfl)) rfl rfl ?_
                            refine WT.done (by kernel_rfl) ?_
                            refine W.condF rfl ?_
                            refine W.skip ?_
                            refine W.region ?_
                            refine WL.val run_move rfl rfl ?_
                            refine WL.val (run_incN rfl rfl (by omega)) rfl rfl ?_
                            refine WL.val run_assign rfl rfl ?_
                            refine WL.nil ?_
                            -- round, path FFFFFFTLTFTLT
                            exact ⟨k + 1, ⟨_, mkE_of ⟨rfl, rfl, rfl, rfl, rfl, rfl, rfl, rfl, rfl, trivial⟩, by omega, by omega, h⟩, by show 8 * i + 8 - (k + 1) < 8 * i + 8 - k; omega⟩
                          · skip
                            refine W.exit ?_
                            refine W.region ?_
                            refine WL.val run_move rfl rfl ?_
                            refine WL.val (run_incN rfl rfl (by omega)) rfl rfl ?_
                            refine WL.val run_assign rfl rfl ?_
                            refine WL.nil ?_
                            -- round, path FFFFFFTLTFTLF
                            exact ⟨i + 1, ⟨_, mkE_of ⟨rfl, rfl, rfl, rfl, rfl, rfl, trivial⟩, by omega, h⟩, by show 16 - (i + 1) < 16 - i; omega⟩
                      · skip
                        refine WL.val run_assign rfl rfl ?_
                        refine WL.nil ?_
                        refine W.seq ?_
                        refine W.seq ?_
                        refine W.region ?_
                        refine WL.val run_move rfl rfl ?_
                        refine WL.val run_move rfl rfl ?_
                        refine WL.eff (eff_call Try.call19 (mapped_ok (s := s2) (i := (i : Int)) (h.fetch (SpP 55 b s2)))) rfl rfl ?_
                        rintro _ w ⟨hv, h⟩
                        rw [hsN, hbits i (by omega), decide_eq_true (by omega), Bool.true_and, if_neg (by omega), decide_eq_false (by omega)] at hv
                        subst hv
                        refine WL.val run_move rfl rfl ?_
                        refine WL.val run_move rfl rfl ?_
                        refine WL.skip rfl rfl ?_
                        refine WL.skip rfl rfl ?_
                        refine WL.val (run_pickF rfl) rfl rfl ?_
                        refine WL.val (run_neqBoolF Try.underlying4 rfl rfl rfl) rfl rfl ?_
                        refine WL.nil ?_
                        refine W.condF rfl ?_
                        refine W.skip ?_
                        refine W.seq ?_
                        refine W.region ?_
                        refine WL.val run_move rfl rfl ?_
                        refine WL.val (run_mulN (m := 8) (n := i) rfl rfl (by omega)) rfl rfl ?_
                        refine WL.val run_assign rfl rfl ?_
                        refine WL.nil ?_
                        refine W.block ?_
                        refine W.loop (fun (k : Nat) env w => ∃ j, env = mkE j [(0, .slice ad data.length cd), (1, .int .i64 (p : Int)), (2, .int .i64 (q : Int)), (7, .pointer (some ⟨b, 0, none⟩)), (10, .slice ar B.length B.length), (12, .int .i64 (i : Int)), (13, .bool false), (14, .bool false), (15, .int .i64 (k : Int))] ∧ 8 * i ≤ k ∧ k ≤ 8 * i + 8 ∧ On W0 (OwnB (.slice ar B.length B.length) B :: SpP 55 b s2 :: F) w) (fun k => 8 * i + 8 - k) (8 * i) ?_ ?_
                        · exact ⟨_, mkE_of ⟨rfl, rfl, rfl, rfl, rfl, rfl, rfl, rfl, rfl, trivial⟩, Nat.le_refl _, by omega, h.to⟩
                        · rintro k env w ⟨j, rfl, hk1, hk2, h⟩
                          refine W.seq ?_
                          refine W.seq ?_
                          refine W.region ?_
                          refine WL.val run_move rfl rfl ?_
                          refine WL.val run_move rfl rfl ?_
                          refine WL.val (run_mulN (m := 8) (n := i) rfl rfl (by omega)) rfl rfl ?_
                          refine WL.val (run_addN (m := 8 * i) (n := 8) rfl rfl (by omega)) rfl rfl ?_
                          refine WL.val (run_lss rfl rfl) rfl rfl ?_
                          refine WL.nil ?_
                          refine W.condIf rfl (fun c48 => ?_) (fun c48 => ?_)
                          · skip
                            refine W.skip ?_
                            refine W.seq ?_
                            refine W.block ?_
                            refine W.seq ?_
                            have hb := hbyte i k (by omega) hk1 (by omega)
                            rw [if_neg (by omega), if_neg (by omega)] at hb
                            have ob_ := Own.addr h (by omega)
                            obtain ⟨br, or_, har⟩ := ob_
                            subst har
                            refine W.draw Try.follows h (fun w h => ?_)
                            refine WT.pure 0 rfl (by kernel_rfl) (fun w' => run_move) rfl rfl ?_
                            refine WT.pure 1 rfl (by kernel_rfl) (fun w' => run_move) rfl rfl ?_
                            refine WT.pure 2 rfl (by kernel_rfl) (fun w' => run_move) rfl rfl ?_
                            refine WT.pure 3 rfl (by kernel_rfl) (fun w' => (run_not rfl)) rfl rfl ?_
                            refine WT.pure 4 rfl (by kernel_rfl) (fun w' => (run_pickF rfl)) rfl rfl ?_
                            refine WT.pure 5 rfl (by kernel_rfl) (fun w' => run_move) rfl rfl ?_
                            refine WT.pure 6 rfl (by kernel_rfl) (fun w' => run_move) rfl rfl ?_
                            refine WT.pure 7 rfl (by kernel_rfl) (fun w' => run_move) rfl rfl ?_
                            refine WT.pure 8 rfl (by kernel_rfl) (fun w' => (run_indexAddr Try.underlying22 Try.sizeOf5 rfl rfl (by omega) (by omega))) rfl rfl ?_
                            refine WT.load1 9 rfl (by kernel_rfl) Try.isAgg5 rfl ((h.cellsO (v := .slice (some ⟨br, or_, none⟩) B.length B.length)).elem (i := k) (vs := [.int .u8 (0 : UInt8).toNat]) (by omega) (bytes_row hb) 0 _ rfl) rfl rfl ?_
                            refine WT.pure 10 rfl (by kernel_rfl) (fun w' => run_neqF rfl rfl (rfl)) rfl rfl ?_
                            refine WT.pure 11 rfl (by kernel_rfl) (fun w' => (run_pickT rfl)) rfl rfl ?_
                            refine WT.pure 12 rfl (by kernel_rfl) (fun w' => run_move) rfl rfl ?_
                            refine WT.pure 13 rfl (by kernel_rfl) (fun w' => run_move) rfl rfl ?_
                            refine WT.pure 14 rfl (by kernel_rfl) (fun w' => (run_not rfl)) rfl rfl ?_
                            refine WT.pure 15 rfl (by kernel_rfl) (fun w' => run_move) rfl rfl ?_
                            refine WT.pure 16 rfl (by kernel_rfl) (fun w' => run_move) rfl rfl ?_
                            refine WT.pure 17 rfl (by kernel_rfl) (fun w' => (run_pickT rfl)) rfl rfl ?_
                            refine WT.pure 18 rfl (by kernel_rfl) (fun w' => run_move) rfl rfl ?_
                            refine WT.skip 19 rfl (by kernel_rfl) rfl rfl ?_
                            refine WT.skip 20 rfl (by kernel_rfl) rfl rfl ?_
                            refine WT.skip 21 rfl (by kernel_rfl) rfl rfl ?_
                            refine WT.skip 22 rfl (by kernel_rfl) rfl rfl ?_
                            refine WT.skip 23 rfl (by kernel_rfl) rfl rfl ?_
                            refine WT.skip 24 rfl (by kernel_rfl) rfl rfl ?_
                            refine WT.skip 25 rfl (by kernel_rfl) rfl rfl ?_
                            refine WT.skip 26 rfl (by kernel_rfl) rfl rfl ?_
                            refine WT.skip 27 rfl (by kernel_rfl) rfl rfl ?_
                            refine WT.pure 28 rfl (by kernel_rfl) (fun w' => (run_pickF rfl)) rfl rfl ?_
                            refine WT.pure 29 rfl (by kernel_rfl) (fun w' => (run_pickF rfl)) rfl rfl ?_
                            refine WT.done (by kernel_rfl) ?_
                            refine W.condF rfl ?_
                            refine W.skip ?_
                            refine W.region ?_
                            refine WL.val run_move rfl rfl ?_
                            refine WL.val (run_incN rfl rfl (by omega)) rfl rfl ?_
                            refine WL.val run_assign rfl rfl ?_
                            refine WL.nil ?_
                            -- round, path FFFFFFTLTFFLT
                            exact ⟨k + 1, ⟨_, mkE_of ⟨rfl, rfl, rfl, rfl, rfl, rfl, rfl, rfl, rfl, trivial⟩, by omega, by omega, h⟩, by show 8 * i + 8 - (k + 1) < 8 * i + 8 - k; omega⟩
                          · skip
                            refine W.exit ?_
                            refine W.region ?_
                            refine WL.val run_move rfl rfl ?_
                            refine WL.val (run_incN rfl rfl (by omega)) rfl rfl ?_
                            refine WL.val run_assign rfl rfl ?_
                            refine WL.nil ?_
                            -- round, path FFFFFFTLTFFLF
                            exact ⟨i + 1, ⟨_, mkE_of ⟨rfl, rfl, rfl, rfl, rfl, rfl, trivial⟩, by omega, h⟩, by show 16 - (i + 1) < 16 - i; omega⟩
                  · skip
                    refine W.exit ?_
                    refine W.seq ?_
                    refine W.region ?_
                    refine WL.val run_assign rfl rfl ?_
                    refine WL.nil ?_
                    refine W.ret ?_
                    refine bodyQ.r1 (v := .bool _) Try.results5 rfl ?_
                    -- path FFFFFFTLF
                    exact ⟨rfl, h.to⟩
              · skip
                refine WL.val run_assign rfl rfl ?_
                refine WL.nil ?_
                refine W.seq ?_
                refine W.seq ?_
                have hpq2 : 16 < p + q := by
                  have ob_ := Nat.lt_or_ge 16 (p + q)
                  rcases ob_ with hh | hh
                  · exact hh
                  · exact (hno (show (0 : Int) ≤ (q : Int) ∧ (q : Int) ≤ 32 ∧ (0 : Int) ≤ (p : Int) ∧ (p : Int) ≤ ((16 : Nat) : Int) ∧ (q : Int) ≤ ((16 : Nat) : Int) - (p : Int) by omega)).elim
                refine W.region ?_
                refine WL.val run_move rfl rfl ?_
                refine WL.val run_move rfl rfl ?_
                refine WL.val (run_add rfl rfl (by omega) (by omega)) rfl rfl ?_
                refine WL.val (run_gtrT rfl rfl (by omega)) rfl rfl ?_
                refine WL.nil ?_
                refine W.condT rfl ?_
                refine W.seq ?_
                refine W.region ?_
                refine WL.val run_move rfl rfl ?_
                refine WL.val (run_eqlT rfl rfl (rfl)) rfl rfl ?_
                refine WL.val run_assign rfl rfl ?_
                refine WL.nil ?_
                refine W.ret ?_
                refine bodyQ.r1 (v := .bool _) Try.results5 rfl ?_
                -- path FFFFFFF
                exact ⟨rfl, h.to⟩

end Go.Proofs.Ytbpcmlekankgmaa
