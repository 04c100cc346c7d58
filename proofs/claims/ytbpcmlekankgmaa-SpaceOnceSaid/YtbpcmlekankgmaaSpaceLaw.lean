/-
  The laws of blocks. Lines of walks printed by a program of the prover's.
-/
import Derived.Test.YtbpcmlekankgmaaSpaceKnown
namespace Go.Proofs.Ytbpcmlekankgmaa
open Go Go.Sl Go.Sl.BitM Go.Sl.SpM
set_option linter.unusedVariables false
set_option linter.unusedSimpArgs false
set_option maxHeartbeats 1000000
variable {W0 w : World} {L F : List HProp}

theorem once_ok {a : Int} {ao aw af : Option Addr} {co cw cf : Nat} {old want fresh : List UInt8} (h : On W0 F w) (CO : Gives F (Bytes (.slice ao old.length co) old)) (CW : Gives F (Bytes (.slice aw want.length cw) want)) (CF : Gives F (Bytes (.slice af fresh.length cf) fresh)) :
    Calls Try.prog 4 #[.int .i64 a, .slice ao old.length co, .slice aw want.length cw, .slice af fresh.length cf] w (Ret fun v w' => v = .bool true ∧ On W0 F w') := by
  refine enter Try.func4 rfl Try.ntmps4 rfl ?_
  have hmx := maxLen_eq
  refine W.seq ?_
  refine W.region ?_
  refine WL.val run_assign rfl rfl ?_
  refine WL.nil ?_
  refine W.seq ?_
  refine W.seq ?_
  refine W.region ?_
  refine WL.eff (eff_call Try.call13 (sknown_ok h)) rfl rfl ?_
  rintro _ w ⟨rfl, h⟩
  refine WL.val (run_not rfl) rfl rfl ?_
  refine WL.nil ?_
  refine W.condF rfl ?_
  refine W.skip ?_
  refine W.seq ?_
  refine W.seq ?_
  refine W.region ?_
  refine WL.val run_move rfl rfl ?_
  refine WL.dec (run_lss rfl rfl) rfl rfl (fun c21 => ?_) (fun c21 => ?_)
  · skip
    refine WL.val run_move rfl rfl ?_
    refine WL.skip rfl rfl ?_
    refine WL.skip rfl rfl ?_
    refine WL.val (run_pickT rfl) rfl rfl ?_
    refine WL.val run_move rfl rfl ?_
    refine WL.skip rfl rfl ?_
    refine WL.skip rfl rfl ?_
    refine WL.skip rfl rfl ?_
    refine WL.val (run_pickT rfl) rfl rfl ?_
    refine WL.val run_move rfl rfl ?_
    refine WL.skip rfl rfl ?_
    refine WL.skip rfl rfl ?_
    refine WL.skip rfl rfl ?_
    refine WL.val (run_pickT rfl) rfl rfl ?_
    refine WL.val run_move rfl rfl ?_
    refine WL.skip rfl rfl ?_
    refine WL.skip rfl rfl ?_
    refine WL.skip rfl rfl ?_
    refine WL.val (run_pickT rfl) rfl rfl ?_
    refine WL.nil ?_
    refine W.condT rfl ?_
    refine W.seq ?_
    refine W.region ?_
    refine WL.val run_assign rfl rfl ?_
    refine WL.nil ?_
    refine W.ret ?_
    refine bodyQ.r1 (v := .bool _) Try.results4 rfl ?_
    -- path T
    exact ⟨rfl, h⟩
  · skip
    refine WL.val run_move rfl rfl ?_
    refine WL.val run_move rfl rfl ?_
    refine WL.dec (run_gtr rfl rfl) rfl rfl (fun c24 => ?_) (fun c24 => ?_)
    · skip
      refine WL.val (run_pickF rfl) rfl rfl ?_
      refine WL.val run_move rfl rfl ?_
      refine WL.skip rfl rfl ?_
      refine WL.skip rfl rfl ?_
      refine WL.skip rfl rfl ?_
      refine WL.val (run_pickT rfl) rfl rfl ?_
      refine WL.val run_move rfl rfl ?_
      refine WL.skip rfl rfl ?_
      refine WL.skip rfl rfl ?_
      refine WL.skip rfl rfl ?_
      refine WL.val (run_pickT rfl) rfl rfl ?_
      refine WL.val run_move rfl rfl ?_
      refine WL.skip rfl rfl ?_
      refine WL.skip rfl rfl ?_
      refine WL.skip rfl rfl ?_
      refine WL.val (run_pickT rfl) rfl rfl ?_
      refine WL.nil ?_
      refine W.condT rfl ?_
      refine W.seq ?_
      refine W.region ?_
      refine WL.val run_assign rfl rfl ?_
      refine WL.nil ?_
      refine W.ret ?_
      refine bodyQ.r1 (v := .bool _) Try.results4 rfl ?_
      -- path FT
      exact ⟨rfl, h⟩
    · skip
      refine WL.val (run_pickF rfl) rfl rfl ?_
      refine WL.val run_move rfl rfl ?_
      refine WL.val run_move rfl rfl ?_
      refine WL.val (run_lenSlice Try.underlying22 rfl) rfl rfl ?_
      refine WL.dec (run_neq rfl rfl) rfl rfl (fun c29 => ?_) (fun c29 => ?_)
      · skip
        refine WL.val (run_pickF rfl) rfl rfl ?_
        refine WL.val run_move rfl rfl ?_
        refine WL.skip rfl rfl ?_
        refine WL.skip rfl rfl ?_
        refine WL.skip rfl rfl ?_
        refine WL.val (run_pickT rfl) rfl rfl ?_
        refine WL.val run_move rfl rfl ?_
        refine WL.skip rfl rfl ?_
        refine WL.skip rfl rfl ?_
        refine WL.skip rfl rfl ?_
        refine WL.val (run_pickT rfl) rfl rfl ?_
        refine WL.nil ?_
        refine W.condT rfl ?_
        refine W.seq ?_
        refine W.region ?_
        refine WL.val run_assign rfl rfl ?_
        refine WL.nil ?_
        refine W.ret ?_
        refine bodyQ.r1 (v := .bool _) Try.results4 rfl ?_
        -- path FFT
        exact ⟨rfl, h⟩
      · skip
        refine WL.val (run_pickF rfl) rfl rfl ?_
        refine WL.val run_move rfl rfl ?_
        refine WL.val run_move rfl rfl ?_
        refine WL.val (run_lenSlice Try.underlying22 rfl) rfl rfl ?_
        refine WL.dec (run_neq rfl rfl) rfl rfl (fun c34 => ?_) (fun c34 => ?_)
        · skip
          refine WL.val (run_pickF rfl) rfl rfl ?_
          refine WL.val run_move rfl rfl ?_
          refine WL.skip rfl rfl ?_
          refine WL.skip rfl rfl ?_
          refine WL.skip rfl rfl ?_
          refine WL.val (run_pickT rfl) rfl rfl ?_
          refine WL.nil ?_
          refine W.condT rfl ?_
          refine W.seq ?_
          refine W.region ?_
          refine WL.val run_assign rfl rfl ?_
          refine WL.nil ?_
          refine W.ret ?_
          refine bodyQ.r1 (v := .bool _) Try.results4 rfl ?_
          -- path FFFT
          exact ⟨rfl, h⟩
        · skip
          refine WL.val (run_pickF rfl) rfl rfl ?_
          refine WL.val run_move rfl rfl ?_
          refine WL.val run_move rfl rfl ?_
          refine WL.val (run_lenSlice Try.underlying22 rfl) rfl rfl ?_
          refine WL.val (run_neq rfl rfl) rfl rfl ?_
          refine WL.val (run_pickF rfl) rfl rfl ?_
          refine WL.nil ?_
          refine W.condIf rfl (fun c7 => ?_) (fun c7 => ?_)
          · skip
            refine W.seq ?_
            refine W.region ?_
            refine WL.val run_assign rfl rfl ?_
            refine WL.nil ?_
            refine W.ret ?_
            refine bodyQ.r1 (v := .bool _) Try.results4 rfl ?_
            -- path FFFFT
            exact ⟨rfl, h⟩
          · skip
            refine W.skip ?_
            refine W.seq ?_
            have hol : old.length = 8 := by omega
            have hwl : want.length = 8 := by omega
            have hfl : fresh.length = 8 := by omega
            have ob_ := Int.eq_ofNat_of_zero_le (show 0 ≤ a by omega)
            obtain ⟨p, rfl⟩ := ob_
            have hwn := newS_wf (n := 8) (by omega) (by omega)
            have hw1 := writeS_wf (s := newS 8) (at_ := p) (bs := old) hwn (by show 8 * p + old.length ≤ 8 * 8; omega)
            have e1 := partS_write (s := newS 8) (p := p) (q := 1) (bs := old) hwn (by omega) (by show p + 1 ≤ 8; omega)
            refine W.region ?_
            refine WL.eff (eff_call Try.call14 (snew_ok h)) rfl rfl ?_
            rintro _ w hv
            rcases hv with ⟨N, hN, hn1, hn2, b, rfl, h⟩ | ⟨hno, _, _⟩
            rotate_left
            · exfalso; omega
            have ob_ : N = 8 := by omega
            obtain rfl := ob_
            refine WL.val run_move rfl rfl ?_
            refine WL.val (run_extract rfl rfl) rfl rfl ?_
            refine WL.val (run_extract rfl rfl) rfl rfl ?_
            refine WL.val run_assign rfl rfl ?_
            refine WL.val run_assign rfl rfl ?_
            refine WL.nil ?_
            refine W.seq ?_
            refine W.region ?_
            refine WL.val run_move rfl rfl ?_
            refine WL.val run_move rfl rfl ?_
            refine WL.val run_move rfl rfl ?_
            refine WL.eff (eff_call Try.call15 (write_ok (s := newS 8) (bs := old) h (Gives.to CO))) rfl rfl ?_
            rintro _ w hv
            rcases hv with ⟨p', hp', -, -, -, rfl, h⟩ | ⟨hno, _, _⟩
            rotate_left
            · exact (hno ⟨by omega, (show (0 : Int) ≤ _ ∧ _ ∧ _ ∧ (p : Int) ≤ (8 : Nat) ∧ _ ≤ ((8 : Nat) : Int) - (p : Int) by omega)⟩).elim
            have hpp : p = p' := Int.ofNat.inj hp'
            subst hpp
            refine WL.nil ?_
            refine W.seq ?_
            refine W.region ?_
            refine WL.eff (eff_mkSlice (zl := []) (out := []) h Try.underlying22 Try.sizeOf5 Try.zeroValue5 (by decide) (by simp) rfl rfl (by simp) (trivial) rfl rfl (by simp [maxLen])) rfl rfl ?_
            rintro _ w ⟨b49, rfl, h⟩
            refine WL.val run_move rfl rfl ?_
            refine WL.eff (eff_app0 (bytes := 1) h rfl rfl (h.readsTo CW) Try.underlying22 rfl rfl rfl rfl rfl (by omega) (by omega) bytes_one) rfl rfl ?_
            rintro _ w ⟨a51, c51, rfl, h⟩
            refine WL.val run_move rfl rfl ?_
            refine WL.eff (eff_app (bytes := 1) h rfl rfl (h.readsTo CF) Try.underlying22 rfl rfl rfl rfl rfl (by omega) (by omega) bytes_one) rfl rfl ?_
            rintro _ w ⟨a53, c53, hv, h⟩
            have hbv : bytesV want ++ bytesV fresh = bytesV (want ++ fresh) := by simp [bytesV]
            rw [← List.length_append] at hv h
            rw [hbv] at h
            subst hv
            refine WL.val run_assign rfl rfl ?_
            refine WL.nil ?_
            refine W.seq ?_
            refine W.region ?_
            refine WL.val run_move rfl rfl ?_
            refine WL.val run_move rfl rfl ?_
            refine WL.val run_move rfl rfl ?_
            refine WL.eff (eff_call Try.call16 (compare_ok (s := (writeS (newS 8) p old)) (bs := want ++ fresh) (h.fetch (SpP 55 b (writeS (newS 8) p old))) Gives.ownO)) rfl rfl ?_
            rintro _ w hv
            have hbl : (want ++ fresh).length = 16 := by rw [List.length_append]; omega
            rcases hv with ⟨p', q, hp', hq, -, -, hv⟩ | ⟨hno, _, _⟩
            rotate_left
            · exact (hno ⟨by omega, by rw [hbl]; exact (show (0 : Int) ≤ _ ∧ _ ∧ _ ∧ (p : Int) ≤ (8 : Nat) ∧ _ ≤ ((8 : Nat) : Int) - (p : Int) by omega)⟩).elim
            have hpp : p = p' := Int.ofNat.inj hp'
            subst hpp
            have hq1 := natEq16 hq hbl
            subst hq1
            rw [e1] at hv
            have et : (want ++ fresh).take (8 * 1) = want := by rw [List.take_append_of_le_length (by omega), List.take_of_length_le (by omega)]
            have ed : (want ++ fresh).drop (8 * 1) = fresh := by rw [List.drop_append_of_le_length (by omega), List.drop_of_length_le (by omega)]; rfl
            rw [et, ed] at hv
            rcases hv with ⟨hall, rfl, h⟩ | ⟨i, hi, hne, hsame, rfl, h⟩
            · skip
              refine WL.val run_move rfl rfl ?_
              refine WL.val (run_extract rfl rfl) rfl rfl ?_
              refine WL.val (run_extract rfl rfl) rfl rfl ?_
              refine WL.val run_assign rfl rfl ?_
              refine WL.val run_assign rfl rfl ?_
              refine WL.nil ?_
              refine W.seq ?_
              refine W.region ?_
              refine WL.val run_move rfl rfl ?_
              refine WL.val run_move rfl rfl ?_
              refine WL.eff (eff_call Try.call17 (read_ok (at_ := (p : Int)) (n := 1) h)) rfl rfl ?_
              rintro _ w hv
              have e2 := partS_write (s := (writeS (newS 8) p old)) (p := p) (q := 1) (bs := fresh) hw1 (by omega) (by show p + 1 ≤ 8; omega)
              rcases hv with ⟨p', q, hp', hq, -, -, ar, hv, h⟩ | ⟨hno, _, _⟩
              rotate_left
              · exact (hno (show (0 : Int) ≤ 1 ∧ _ ∧ _ ∧ (p : Int) ≤ (8 : Nat) ∧ (1 : Int) ≤ ((8 : Nat) : Int) - (p : Int) by omega)).elim
              have hpp : p = p' := Int.ofNat.inj hp'
              subst hpp
              have hq1 : q = 1 := natEq (k := 1) hq
              subst hq1
              rw [e2] at hv h
              subst hv
              refine WL.val run_move rfl rfl ?_
              refine WL.val (run_extract rfl rfl) rfl rfl ?_
              refine WL.val (run_extract rfl rfl) rfl rfl ?_
              refine WL.val run_assign rfl rfl ?_
              refine WL.val run_assign rfl rfl ?_
              refine WL.nil ?_
              refine W.seq ?_
              refine W.seq ?_
              refine W.region ?_
              refine WL.val run_move rfl rfl ?_
              refine WL.val (run_bytesStr Try.underlying22 Try.underlying5 Try.underlying9 rfl (h.readsTo CO)) rfl rfl ?_
              refine WL.val run_move rfl rfl ?_
              refine WL.val (run_bytesStr Try.underlying22 Try.underlying5 Try.underlying9 rfl (h.readsTo CW)) rfl rfl ?_
              refine WL.val (run_neqStrF rfl rfl (by rw [hall])) rfl rfl ?_
              refine WL.nil ?_
              refine W.condF rfl ?_
              refine W.skip ?_
              refine W.seq ?_
              refine W.region ?_
              refine WL.val run_move rfl rfl ?_
              refine WL.val run_move rfl rfl ?_
              refine WL.val run_move rfl rfl ?_
              refine WL.eff (eff_call Try.call16 (compare_ok (s := writeS (writeS (newS 8) p old) p fresh) (bs := want ++ fresh) (h.fetch (SpP 55 b (writeS (writeS (newS 8) p old) p fresh))) Gives.ownO)) rfl rfl ?_
              rintro _ w hv
              rcases hv with ⟨p', q, hp', hq, -, -, hv⟩ | ⟨hno, _, _⟩
              rotate_left
              · exact (hno ⟨by omega, by rw [hbl]; exact (show (0 : Int) ≤ _ ∧ _ ∧ _ ∧ (p : Int) ≤ (8 : Nat) ∧ _ ≤ ((8 : Nat) : Int) - (p : Int) by omega)⟩).elim
              have hpp : p = p' := Int.ofNat.inj hp'
              subst hpp
              have hq1 := natEq16 hq hbl
              subst hq1
              rw [e2, et, ed] at hv
              rcases hv with ⟨hall2, rfl, h⟩ | ⟨i, hi, hne, hsame, rfl, h⟩
              · skip
                refine WL.val run_move rfl rfl ?_
                refine WL.val (run_extract rfl rfl) rfl rfl ?_
                refine WL.val (run_extract rfl rfl) rfl rfl ?_
                refine WL.val run_assign rfl rfl ?_
                refine WL.val run_assign rfl rfl ?_
                refine WL.nil ?_
                refine W.seq ?_
                refine W.region ?_
                refine WL.val run_move rfl rfl ?_
                refine WL.val run_move rfl rfl ?_
                refine WL.val (run_add rfl rfl (by omega) (by omega)) rfl rfl ?_
                refine WL.val (run_eqlT rfl rfl (rfl)) rfl rfl ?_
                refine WL.val run_move rfl rfl ?_
                refine WL.val run_move rfl rfl ?_
                refine WL.val (run_eqlT rfl rfl (rfl)) rfl rfl ?_
                refine WL.val (run_pickT rfl) rfl rfl ?_
                refine WL.val run_move rfl rfl ?_
                refine WL.val run_move rfl rfl ?_
                refine WL.val (run_bytesStr Try.underlying22 Try.underlying5 Try.underlying9 rfl (h.cellsO)) rfl rfl ?_
                refine WL.val run_move rfl rfl ?_
                refine WL.val (run_bytesStr Try.underlying22 Try.underlying5 Try.underlying9 rfl (h.readsTo CF)) rfl rfl ?_
                refine WL.val (run_eqlStrT rfl rfl (rfl)) rfl rfl ?_
                refine WL.val (run_pickT rfl) rfl rfl ?_
                refine WL.val run_move rfl rfl ?_
                refine WL.val run_move rfl rfl ?_
                refine WL.val (run_lssT rfl rfl (by decide)) rfl rfl ?_
                refine WL.val run_move rfl rfl ?_
                refine WL.val (run_bytesStr Try.underlying22 Try.underlying5 Try.underlying9 rfl (h.readsTo CF)) rfl rfl ?_
                refine WL.val run_move rfl rfl ?_
                refine WL.val (run_bytesStr Try.underlying22 Try.underlying5 Try.underlying9 rfl (h.readsTo CW)) rfl rfl ?_
                refine WL.val (run_eqlStrT rfl rfl (by rw [hall2])) rfl rfl ?_
                refine WL.val (run_eqlBoolT Try.underlying4 rfl rfl rfl) rfl rfl ?_
                refine WL.val (run_pickT rfl) rfl rfl ?_
                refine WL.val run_assign rfl rfl ?_
                refine WL.nil ?_
                refine W.ret ?_
                refine bodyQ.r1 (v := .bool _) Try.results4 rfl ?_
                -- path FFFFFTT
                exact ⟨rfl, h.to⟩
              · skip
                refine WL.val run_move rfl rfl ?_
                refine WL.val (run_extract rfl rfl) rfl rfl ?_
                refine WL.val (run_extract rfl rfl) rfl rfl ?_
                refine WL.val run_assign rfl rfl ?_
                refine WL.val run_assign rfl rfl ?_
                refine WL.nil ?_
                refine W.seq ?_
                have hnfw := (once_diff hfl hwl hi hne hsame).1
                refine W.region ?_
                refine WL.val run_move rfl rfl ?_
                refine WL.val run_move rfl rfl ?_
                refine WL.val (run_add rfl rfl (by omega) (by omega)) rfl rfl ?_
                refine WL.val (run_eqlT rfl rfl (rfl)) rfl rfl ?_
                refine WL.val run_move rfl rfl ?_
                refine WL.val run_move rfl rfl ?_
                refine WL.val (run_eqlT rfl rfl (rfl)) rfl rfl ?_
                refine WL.val (run_pickT rfl) rfl rfl ?_
                refine WL.val run_move rfl rfl ?_
                refine WL.val run_move rfl rfl ?_
                refine WL.val (run_bytesStr Try.underlying22 Try.underlying5 Try.underlying9 rfl (h.cellsO)) rfl rfl ?_
                refine WL.val run_move rfl rfl ?_
                refine WL.val (run_bytesStr Try.underlying22 Try.underlying5 Try.underlying9 rfl (h.readsTo CF)) rfl rfl ?_
                refine WL.val (run_eqlStrT rfl rfl (rfl)) rfl rfl ?_
                refine WL.val (run_pickT rfl) rfl rfl ?_
                refine WL.val run_move rfl rfl ?_
                refine WL.val run_move rfl rfl ?_
                refine WL.val (run_lssF rfl rfl (by omega)) rfl rfl ?_
                refine WL.val run_move rfl rfl ?_
                refine WL.val (run_bytesStr Try.underlying22 Try.underlying5 Try.underlying9 rfl (h.readsTo CF)) rfl rfl ?_
                refine WL.val run_move rfl rfl ?_
                refine WL.val (run_bytesStr Try.underlying22 Try.underlying5 Try.underlying9 rfl (h.readsTo CW)) rfl rfl ?_
                refine WL.val (run_eqlStrF rfl rfl (by simpa [Go.ByteArray.toList_eq] using hnfw)) rfl rfl ?_
                refine WL.val (run_eqlBoolT Try.underlying4 rfl rfl rfl) rfl rfl ?_
                refine WL.val (run_pickT rfl) rfl rfl ?_
                refine WL.val run_assign rfl rfl ?_
                refine WL.nil ?_
                refine W.ret ?_
                refine bodyQ.r1 (v := .bool _) Try.results4 rfl ?_
                -- path FFFFFTF
                exact ⟨rfl, h.to⟩
            · skip
              refine WL.val run_move rfl rfl ?_
              refine WL.val (run_extract rfl rfl) rfl rfl ?_
              refine WL.val (run_extract rfl rfl) rfl rfl ?_
              refine WL.val run_assign rfl rfl ?_
              refine WL.val run_assign rfl rfl ?_
              refine WL.nil ?_
              refine W.seq ?_
              refine W.region ?_
              refine WL.val run_move rfl rfl ?_
              refine WL.val run_move rfl rfl ?_
              refine WL.eff (eff_call Try.call17 (read_ok (at_ := (p : Int)) (n := 1) h)) rfl rfl ?_
              rintro _ w hv
              rcases hv with ⟨p', q, hp', hq, -, -, ar, hv, h⟩ | ⟨hno, _, _⟩
              rotate_left
              · exact (hno (show (0 : Int) ≤ 1 ∧ _ ∧ _ ∧ (p : Int) ≤ (8 : Nat) ∧ (1 : Int) ≤ ((8 : Nat) : Int) - (p : Int) by omega)).elim
              have hpp : p = p' := Int.ofNat.inj hp'
              subst hpp
              have hq1 : q = 1 := natEq (k := 1) hq
              subst hq1
              rw [e1] at hv h
              subst hv
              refine WL.val run_move rfl rfl ?_
              refine WL.val (run_extract rfl rfl) rfl rfl ?_
              refine WL.val (run_extract rfl rfl) rfl rfl ?_
              refine WL.val run_assign rfl rfl ?_
              refine WL.val run_assign rfl rfl ?_
              refine WL.nil ?_
              refine W.seq ?_
              refine W.seq ?_
              have ob_ := once_diff hol hwl hi hne hsame
              obtain ⟨hnow, ⟨x, y, hx, hy, hxy⟩, hfr⟩ := ob_
              have ob_ := (h.readsTo CO).bounds
              obtain ⟨hbo, _⟩ := ob_
              have ob_ := (h.readsTo CW).bounds
              obtain ⟨hbw, _⟩ := ob_
              have ob_ := (h.readsTo CO).addr (by omega)
              obtain ⟨bo, oo, rfl⟩ := ob_
              have ob_ := (h.readsTo CW).addr (by omega)
              obtain ⟨bw, ow, rfl⟩ := ob_
              refine W.region ?_
              refine WL.val run_move rfl rfl ?_
              refine WL.val (run_bytesStr Try.underlying22 Try.underlying5 Try.underlying9 rfl (h.readsTo CO)) rfl rfl ?_
              refine WL.val run_move rfl rfl ?_
              refine WL.val (run_bytesStr Try.underlying22 Try.underlying5 Try.underlying9 rfl (h.readsTo CW)) rfl rfl ?_
              refine WL.val (run_neqStrT rfl rfl (by simpa [Go.ByteArray.toList_eq] using hnow)) rfl rfl ?_
              refine WL.nil ?_
              refine W.condT rfl ?_
              refine W.seq ?_
              refine W.draw Try.follows h (fun w h => ?_)
              refine WT.pure 0 rfl (by kernel_rfl) (fun w' => run_move) rfl rfl ?_
              refine WT.pure 1 rfl (by kernel_rfl) (fun w' => run_eqlT rfl rfl (rfl)) rfl rfl ?_
              refine WT.pure 2 rfl (by kernel_rfl) (fun w' => run_move) rfl rfl ?_
              refine WT.pure 3 rfl (by kernel_rfl) (fun w' => run_move) rfl rfl ?_
              refine WT.pure 4 rfl (by kernel_rfl) (fun w' => run_geqT rfl rfl (by omega)) rfl rfl ?_
              refine WT.pure 5 rfl (by kernel_rfl) (fun w' => (run_pickT rfl)) rfl rfl ?_
              refine WT.pure 6 rfl (by kernel_rfl) (fun w' => run_move) rfl rfl ?_
              refine WT.pure 7 rfl (by kernel_rfl) (fun w' => run_move) rfl rfl ?_
              refine WT.pure 8 rfl (by kernel_rfl) (fun w' => run_lssT rfl rfl (by omega)) rfl rfl ?_
              refine WT.pure 9 rfl (by kernel_rfl) (fun w' => (run_pickT rfl)) rfl rfl ?_
              refine WT.pure 10 rfl (by kernel_rfl) (fun w' => run_move) rfl rfl ?_
              refine WT.pure 11 rfl (by kernel_rfl) (fun w' => run_move) rfl rfl ?_
              refine WT.pure 12 rfl (by kernel_rfl) (fun w' => run_move) rfl rfl ?_
              refine WT.pure 13 rfl (by kernel_rfl) (fun w' => (run_indexAddr Try.underlying22 Try.sizeOf5 rfl rfl (by omega) (by omega))) rfl rfl ?_
              refine WT.load1 14 rfl (by kernel_rfl) Try.isAgg5 rfl ((h.readsTo CO).elem (i := i) (vs := [.int .u8 x.toNat]) (by omega) (bytes_row hx) 0 _ rfl) rfl rfl ?_
              refine WT.pure 15 rfl (by kernel_rfl) (fun w' => run_move) rfl rfl ?_
              refine WT.pure 16 rfl (by kernel_rfl) (fun w' => run_move) rfl rfl ?_
              refine WT.pure 17 rfl (by kernel_rfl) (fun w' => (run_indexAddr Try.underlying22 Try.sizeOf5 rfl rfl (by omega) (by omega))) rfl rfl ?_
              refine WT.load1 18 rfl (by kernel_rfl) Try.isAgg5 rfl ((h.readsTo CW).elem (i := i) (vs := [.int .u8 y.toNat]) (by omega) (bytes_row hy) 0 _ rfl) rfl rfl ?_
              refine WT.pure 19 rfl (by kernel_rfl) (fun w' => run_neqT rfl rfl (by omega)) rfl rfl ?_
              refine WT.pure 20 rfl (by kernel_rfl) (fun w' => (run_pickT rfl)) rfl rfl ?_
              refine WT.pure 21 rfl (by kernel_rfl) (fun w' => run_move) rfl rfl ?_
              refine WT.pure 22 rfl (by kernel_rfl) (fun w' => run_move) rfl rfl ?_
              refine WT.pure 23 rfl (by kernel_rfl) (fun w' => run_move) rfl rfl ?_
              refine WT.pure 24 rfl (by kernel_rfl) (fun w' => (run_cutH Try.underlying22 Try.sizeOf5 rfl rfl  (by omega))) rfl rfl ?_
              refine WT.take 25 (fun w => Cells 1 (.slice (some ⟨bo, oo, none⟩) i co) i (bytesV (old.take i)) (hp w)) rfl (by kernel_rfl) rfl rfl (bytes_front (h.readsTo CO) (k := i) (by omega)) (fun w' hC => run_bytesStr Try.underlying22 Try.underlying5 Try.underlying9 rfl hC) ?_
              refine WT.pure 26 rfl (by kernel_rfl) (fun w' => run_move) rfl rfl ?_
              refine WT.pure 27 rfl (by kernel_rfl) (fun w' => run_move) rfl rfl ?_
              refine WT.pure 28 rfl (by kernel_rfl) (fun w' => (run_cutH Try.underlying22 Try.sizeOf5 rfl rfl  (by omega))) rfl rfl ?_
              refine WT.take 29 (fun w => Cells 1 (.slice (some ⟨bw, ow, none⟩) i cw) i (bytesV (want.take i)) (hp w)) rfl (by kernel_rfl) rfl rfl (bytes_front (h.readsTo CW) (k := i) (by omega)) (fun w' hC => run_bytesStr Try.underlying22 Try.underlying5 Try.underlying9 rfl hC) ?_
              refine WT.pure 30 rfl (by kernel_rfl) (fun w' => run_eqlStrT rfl rfl (by rw [hfr])) rfl rfl ?_
              refine WT.pure 31 rfl (by kernel_rfl) (fun w' => (run_pickT rfl)) rfl rfl ?_
              refine WT.pure 32 rfl (by kernel_rfl) (fun w' => run_move) rfl rfl ?_
              refine WT.pure 33 rfl (by kernel_rfl) (fun w' => run_move) rfl rfl ?_
              refine WT.take 34 (fun w => Bytes (.slice ar old.length old.length) (old) (hp w)) rfl (by kernel_rfl) rfl rfl (h.cellsO) (fun w' hC => run_bytesStr Try.underlying22 Try.underlying5 Try.underlying9 rfl hC) ?_
              refine WT.pure 35 rfl (by kernel_rfl) (fun w' => run_move) rfl rfl ?_
              refine WT.take 36 (fun w => Bytes (.slice (some ⟨bo, oo, none⟩) old.length co) (old) (hp w)) rfl (by kernel_rfl) rfl rfl (h.readsTo CO) (fun w' hC => run_bytesStr Try.underlying22 Try.underlying5 Try.underlying9 rfl hC) ?_
              refine WT.pure 37 rfl (by kernel_rfl) (fun w' => run_eqlStrT rfl rfl (rfl)) rfl rfl ?_
              refine WT.pure 38 rfl (by kernel_rfl) (fun w' => (run_pickT rfl)) rfl rfl ?_
              refine WT.pure 39 rfl (by kernel_rfl) (fun w' => run_assign) rfl rfl ?_
              refine WT.done (by kernel_rfl) ?_
              refine W.ret ?_
              refine bodyQ.r1 (v := .bool _) Try.results4 rfl ?_
              -- path FFFFFF
              exact ⟨rfl, h.to⟩

end Go.Proofs.Ytbpcmlekankgmaa
