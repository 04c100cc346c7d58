/-
  The laws of blocks. Lines of walks printed by a program of the prover's.
-/
import Derived.Test.YtbpcmlekankgmaaSpaceKnown
namespace Go.Proofs.Ytbpcmlekankgmaa
open Go Go.Sl Go.Sl.BitM Go.Sl.SpM
set_option linter.unusedVariables false
set_option linter.unusedSimpArgs false
set_option maxHeartbeats 1000000
variable {W0 w : World} {L F : List HProp}

theorem swaps_ok {al : Option Addr} {cl : Nat} {l : List UInt8} (h : On W0 F w) (C : Gives F (Bytes (.slice al l.length cl) l)) :
    Calls Try.prog 6 #[.slice al l.length cl] w (Ret fun v w' => v = .bool true ∧ On W0 F w') := by
  refine enter Try.func6 rfl Try.ntmps6 rfl ?_
  have hmx := maxLen_eq
  refine W.seq ?_
  refine W.region ?_
  refine WL.val run_assign rfl rfl ?_
  refine WL.nil ?_
  refine W.seq ?_
  refine W.seq ?_
  refine W.region ?_
  refine WL.eff (eff_call Try.call13 (sknown_ok h)) rfl rfl ?_
  rintro _ w ⟨rfl, h⟩
  refine WL.val (run_not rfl) rfl rfl ?_
  refine WL.nil ?_
  refine W.condF rfl ?_
  refine W.skip ?_
  refine W.seq ?_
  refine W.seq ?_
  refine W.region ?_
  refine WL.val run_move rfl rfl ?_
  refine WL.val (run_lenSlice Try.underlying22 rfl) rfl rfl ?_
  refine WL.val (run_gtr rfl rfl) rfl rfl ?_
  refine WL.nil ?_
  refine W.condIf rfl (fun c7 => ?_) (fun c7 => ?_)
  · skip
    refine W.seq ?_
    refine W.region ?_
    refine WL.val run_assign rfl rfl ?_
    refine WL.nil ?_
    refine W.ret ?_
    refine bodyQ.r1 (v := .bool _) Try.results6 rfl ?_
    -- path T
    exact ⟨rfl, h⟩
  · skip
    refine W.skip ?_
    refine W.seq ?_
    refine W.region ?_
    refine WL.eff (eff_call Try.call14 (snew_ok h)) rfl rfl ?_
    rintro _ w hv
    rcases hv with ⟨N, hN, hn1, hn2, b, rfl, h⟩ | ⟨hno, _, _⟩
    rotate_left
    · exfalso; omega
    have ob_ : N = 1 := by omega
    obtain rfl := ob_
    refine WL.val run_move rfl rfl ?_
    refine WL.val (run_extract rfl rfl) rfl rfl ?_
    refine WL.val (run_extract rfl rfl) rfl rfl ?_
    refine WL.val run_assign rfl rfl ?_
    refine WL.val run_assign rfl rfl ?_
    refine WL.nil ?_
    refine W.seq ?_
    refine W.region ?_
    refine WL.val run_assign rfl rfl ?_
    refine WL.nil ?_
    refine W.seq ?_
    refine W.seq ?_
    refine W.region ?_
    refine WL.val run_assign rfl rfl ?_
    refine WL.nil ?_
    refine W.block ?_
    refine W.loop (fun (k : Nat) env w => ∃ j s now, env = mkE j [(0, .slice al l.length cl), (3, .pointer (some ⟨b, 0, none⟩)), (5, .int .u8 ((now : UInt8).toNat : Int)), (6, .int .i64 (k : Int))] ∧ k ≤ l.length ∧ wfS s ∧ s.N = 1 ∧ partS s 0 1 = oneB now ∧ On W0 (SpP 55 b s :: F) w) (fun k => l.length - k) (0) ?_ ?_
    · exact ⟨_, newS 1, 0, mkE_of ⟨rfl, rfl, rfl, rfl, trivial⟩, Nat.zero_le _, newS_wf (by omega) (by omega), rfl, by decide, h⟩
    · rintro k env w ⟨j, s, now, rfl, hk, hw, hN, hp, h⟩
      refine W.seq ?_
      refine W.seq ?_
      refine W.region ?_
      refine WL.val run_move rfl rfl ?_
      refine WL.val run_move rfl rfl ?_
      refine WL.val (run_lenSlice Try.underlying22 rfl) rfl rfl ?_
      refine WL.val (run_lss rfl rfl) rfl rfl ?_
      refine WL.nil ?_
      refine W.condIf rfl (fun c17 => ?_) (fun c17 => ?_)
      · skip
        refine W.skip ?_
        refine W.seq ?_
        refine W.block ?_
        refine W.seq ?_
        have ob_ : ∃ x, l[k]? = some x := ⟨l[k]'(by omega), by simp⟩
        obtain ⟨x, hx⟩ := ob_
        have hx256 := x.toNat_lt
        have ob_ := (h.readsTo C).addr (by omega)
        obtain ⟨bl, ol, rfl⟩ := ob_
        have hI : inS s 0 ((16 / 8 / 2 : Nat) : Int) := by unfold inS; rw [hN]; decide
        have hI1 : inS s 0 1 := by unfold inS; rw [hN]; decide
        have e3 : ((x.toNat &&& 3 : Nat) : Int) = ((x &&& 3).toNat : Int) := SpM.u8_and x 3
        have e4 : ((x.toNat / 2 ^ 2 &&& 3 : Nat) : Int) = (((x / 4) &&& 3).toNat : Int) := by rw [← SpM.u8_and, UInt8.toNat_div]; rfl
        have hw3 := (x &&& 3).toNat_lt
        have hf3 := ((x / 4) &&& 3).toNat_lt
        refine W.region ?_
        refine WL.val run_move rfl rfl ?_
        refine WL.val run_move rfl rfl ?_
        refine WL.val (run_indexAddr Try.underlying22 Try.sizeOf5 rfl rfl (by omega) (by omega)) rfl rfl ?_
        refine WL.val (run_load1 Try.isAgg5 rfl ((h.readsTo C).elem (i := k) (vs := [.int .u8 x.toNat]) (by omega) (bytes_row hx) 0 _ rfl)) rfl rfl ?_
        refine WL.val (run_andV (m := x.toNat) (n := 3) e3 rfl rfl (by show _ ≤ (255 : Int); omega) (by decide)) rfl rfl ?_
        refine WL.val run_assign rfl rfl ?_
        refine WL.nil ?_
        refine W.seq ?_
        refine W.region ?_
        refine WL.val run_move rfl rfl ?_
        refine WL.val run_move rfl rfl ?_
        refine WL.val (run_indexAddr Try.underlying22 Try.sizeOf5 rfl rfl (by omega) (by omega)) rfl rfl ?_
        refine WL.val (run_load1 Try.isAgg5 rfl ((h.readsTo C).elem (i := k) (vs := [.int .u8 x.toNat]) (by omega) (bytes_row hx) 0 _ rfl)) rfl rfl ?_
        refine WL.val (run_shrN (m := x.toNat) (j := 2) rfl rfl (by decide)) rfl rfl ?_
        refine WL.val (run_andV (m := x.toNat / 2 ^ 2) (n := 3) e4 rfl rfl (by show _ ≤ (255 : Int); omega) (by decide)) rfl rfl ?_
        refine WL.val run_assign rfl rfl ?_
        refine WL.nil ?_
        refine W.seq ?_
        refine W.region ?_
        refine WL.eff (eff_make (n := 16) (bytes := 1) h (rfl) (rfl) Try.underlying22 rfl rfl rfl rfl rfl (by omega) (by omega)) rfl rfl ?_
        rintro _ w ⟨b40, rfl, h⟩
        refine WL.val run_assign rfl rfl ?_
        refine WL.nil ?_
        refine W.seq ?_
        refine W.region ?_
        refine WL.val run_move rfl rfl ?_
        refine WL.val run_move rfl rfl ?_
        refine WL.val (run_indexAddr Try.underlying22 Try.sizeOf5 rfl rfl (by omega) (by omega)) rfl rfl ?_
        refine WL.eff (eff_storeOwn (k := 0 * 1) (v := .int .u8 _) h Try.sizeOf5 rfl rfl rfl (by omega)) rfl rfl ?_
        rintro _ w h
        refine WL.nil ?_
        refine W.seq ?_
        refine W.region ?_
        refine WL.val run_move rfl rfl ?_
        refine WL.val run_move rfl rfl ?_
        refine WL.val (run_indexAddr Try.underlying22 Try.sizeOf5 rfl rfl (by omega) (by omega)) rfl rfl ?_
        refine WL.eff (eff_storeOwn (k := 8 * 1) (v := .int .u8 _) h Try.sizeOf5 rfl rfl rfl (by omega)) rfl rfl ?_
        rintro _ w h
        have h : On W0 (Own 1 (.slice (some ⟨b40, 0, none⟩) 16 16) 16 (bytesV (oneB (x &&& 3) ++ oneB ((x / 4) &&& 3))) :: _) w := h
        refine WL.nil ?_
        refine W.seq ?_
        refine W.region ?_
        refine WL.val run_move rfl rfl ?_
        refine WL.val run_move rfl rfl ?_
        refine WL.eff (eff_call Try.call16 (compare_ok (s := s) (at_ := 0) (bs := oneB (x &&& 3) ++ oneB ((x / 4) &&& 3)) (h.fetch (SpP 55 b s)) (Gives.ownO (v := .slice (some ⟨b40, 0, none⟩) 16 16)))) rfl rfl ?_
        rintro _ w hv
        have hbl : (oneB (x &&& 3) ++ oneB ((x / 4) &&& 3)).length = 16 := rfl
        rcases hv with ⟨p', q, hp', hq, -, -, hv⟩ | ⟨hno, _, _⟩
        rotate_left
        · exact (hno ⟨by rw [hbl], by rw [hbl]; exact hI⟩).elim
        have hpp : p' = 0 := natEq (k := 0) hp'
        subst hpp
        have hq1 := natEq16 hq rfl
        subst hq1
        rw [hp] at hv
        rcases hv with ⟨hall, rfl, h⟩ | ⟨i, hi, hne, hsame, rfl, h⟩
        · skip
          refine WL.val run_move rfl rfl ?_
          refine WL.val (run_extract rfl rfl) rfl rfl ?_
          refine WL.val (run_extract rfl rfl) rfl rfl ?_
          refine WL.val run_assign rfl rfl ?_
          refine WL.val run_assign rfl rfl ?_
          refine WL.nil ?_
          refine W.seq ?_
          refine W.seq ?_
          have hnw : now = x &&& 3 := by have := congrArg (fun l => l[0]?) hall; simpa [oneB] using this
          have hw2 : wfS (writeS s 0 (oneB ((x / 4) &&& 3))) := writeS_wf hw (by rw [hN]; show 8 * 0 + 8 ≤ 8 * 1; omega)
          have hp2 : partS (writeS s 0 (oneB ((x / 4) &&& 3))) 0 1 = oneB ((x / 4) &&& 3) := partS_write hw rfl (by rw [hN]; omega)
          have h : On W0 (SpP 55 b (writeS s 0 (oneB ((x / 4) &&& 3))) :: _) w := h
          refine W.region ?_
          refine WL.val run_move rfl rfl ?_
          refine WL.val (run_neqF rfl rfl (by decide)) rfl rfl ?_
          refine WL.val run_move rfl rfl ?_
          refine WL.val run_move rfl rfl ?_
          refine WL.val (run_lssT rfl rfl (by decide)) rfl rfl ?_
          refine WL.val run_move rfl rfl ?_
          refine WL.val run_move rfl rfl ?_
          refine WL.val (run_eqlT rfl rfl (by rw [hnw])) rfl rfl ?_
          refine WL.val (run_neqBoolF Try.underlying4 rfl rfl rfl) rfl rfl ?_
          refine WL.val (run_pickF rfl) rfl rfl ?_
          refine WL.val run_move rfl rfl ?_
          refine WL.val run_move rfl rfl ?_
          refine WL.val (run_gtrF rfl rfl (by omega)) rfl rfl ?_
          refine WL.val (run_pickF rfl) rfl rfl ?_
          refine WL.nil ?_
          refine W.condF rfl ?_
          refine W.skip ?_
          refine W.seq ?_
          refine W.seq ?_
          refine W.region ?_
          refine WL.val run_move rfl rfl ?_
          refine WL.val run_move rfl rfl ?_
          refine WL.val (run_eqlT rfl rfl (by rw [hnw])) rfl rfl ?_
          refine WL.nil ?_
          refine W.condT rfl ?_
          refine W.region ?_
          refine WL.val run_move rfl rfl ?_
          refine WL.val run_assign rfl rfl ?_
          refine WL.nil ?_
          refine W.seq ?_
          refine W.region ?_
          refine WL.val run_move rfl rfl ?_
          refine WL.eff (eff_call Try.call17 (read_ok (s := (writeS s 0 (oneB ((x / 4) &&& 3)))) (at_ := 0) (n := 1) h)) rfl rfl ?_
          rintro _ w hv
          rcases hv with ⟨p', q, hp', hq, -, -, ar, hv, h⟩ | ⟨hno, _, _⟩
          rotate_left
          · exact (hno hI1).elim
          have hpp : p' = 0 := natEq (k := 0) hp'
          subst hpp
          have hq1 : q = 1 := natEq (k := 1) hq
          subst hq1
          rw [hp2] at hv h
          subst hv
          have hpos : 0 < (oneB 0).length := by decide
          have ob_ := Own.addr h hpos
          obtain ⟨br, or_, rfl⟩ := ob_
          refine WL.val run_move rfl rfl ?_
          refine WL.val (run_extract rfl rfl) rfl rfl ?_
          refine WL.val (run_extract rfl rfl) rfl rfl ?_
          refine WL.val run_assign rfl rfl ?_
          refine WL.val run_assign rfl rfl ?_
          refine WL.nil ?_
          refine W.seq ?_
          refine W.region ?_
          refine WL.val run_move rfl rfl ?_
          refine WL.val (run_neqF rfl rfl (by decide)) rfl rfl ?_
          refine WL.val run_move rfl rfl ?_
          refine WL.val run_move rfl rfl ?_
          refine WL.val (run_indexAddr Try.underlying22 Try.sizeOf5 rfl rfl (by decide) (by show (0 : Int) < 8; decide)) rfl rfl ?_
          refine WL.val (run_load1 Try.isAgg5 rfl ((h.cellsO (v := .slice (some ⟨br, or_, none⟩) (oneB ((x / 4) &&& 3)).length (oneB ((x / 4) &&& 3)).length)).elem (i := 0) (vs := [.int .u8 ((x / 4) &&& 3).toNat]) hpos rfl 0 _ rfl)) rfl rfl ?_
          refine WL.val run_move rfl rfl ?_
          refine WL.val (run_neqF rfl rfl (rfl)) rfl rfl ?_
          refine WL.val (run_pickF rfl) rfl rfl ?_
          refine WL.nil ?_
          refine W.condF rfl ?_
          refine W.skip ?_
          refine W.region ?_
          refine WL.val run_move rfl rfl ?_
          refine WL.val (run_add rfl rfl (by omega) (by omega)) rfl rfl ?_
          refine WL.val run_assign rfl rfl ?_
          refine WL.nil ?_
          -- round, path FLTT
          exact ⟨k + 1, ⟨_, _, (x / 4) &&& 3, mkE_of ⟨rfl, rfl, rfl, rfl, trivial⟩, by omega, hw2, hN, hp2, h.to⟩, by show l.length - (k + 1) < l.length - k; omega⟩
        · skip
          refine WL.val run_move rfl rfl ?_
          refine WL.val (run_extract rfl rfl) rfl rfl ?_
          refine WL.val (run_extract rfl rfl) rfl rfl ?_
          refine WL.val run_assign rfl rfl ?_
          refine WL.val run_assign rfl rfl ?_
          refine WL.nil ?_
          refine W.seq ?_
          refine W.seq ?_
          have hdi := oneB_diff hne (by omega)
          have hd0 : i = 0 := hdi.1
          have hdn := hdi.2
          subst hd0
          refine W.region ?_
          refine WL.val run_move rfl rfl ?_
          refine WL.val (run_neqF rfl rfl (by decide)) rfl rfl ?_
          refine WL.val run_move rfl rfl ?_
          refine WL.val run_move rfl rfl ?_
          refine WL.val (run_lssF rfl rfl (by omega)) rfl rfl ?_
          refine WL.val run_move rfl rfl ?_
          refine WL.val run_move rfl rfl ?_
          refine WL.val (run_eqlF rfl rfl (fun e => hdn (UInt8.toNat_inj.1 (by omega)))) rfl rfl ?_
          refine WL.val (run_neqBoolF Try.underlying4 rfl rfl rfl) rfl rfl ?_
          refine WL.val (run_pickF rfl) rfl rfl ?_
          refine WL.val run_move rfl rfl ?_
          refine WL.val run_move rfl rfl ?_
          refine WL.val (run_gtrF rfl rfl (by omega)) rfl rfl ?_
          refine WL.val (run_pickF rfl) rfl rfl ?_
          refine WL.nil ?_
          refine W.condF rfl ?_
          refine W.skip ?_
          refine W.seq ?_
          refine W.seq ?_
          refine W.region ?_
          refine WL.val run_move rfl rfl ?_
          refine WL.val run_move rfl rfl ?_
          refine WL.val (run_eqlF rfl rfl (fun e => hdn (UInt8.toNat_inj.1 (by omega)))) rfl rfl ?_
          refine WL.nil ?_
          refine W.condF rfl ?_
          refine W.skip ?_
          refine W.seq ?_
          refine W.region ?_
          refine WL.val run_move rfl rfl ?_
          refine WL.eff (eff_call Try.call17 (read_ok (s := s) (at_ := 0) (n := 1) h)) rfl rfl ?_
          rintro _ w hv
          rcases hv with ⟨p', q, hp', hq, -, -, ar, hv, h⟩ | ⟨hno, _, _⟩
          rotate_left
          · exact (hno hI1).elim
          have hpp : p' = 0 := natEq (k := 0) hp'
          subst hpp
          have hq1 : q = 1 := natEq (k := 1) hq
          subst hq1
          rw [hp] at hv h
          subst hv
          have hpos : 0 < (oneB 0).length := by decide
          have ob_ := Own.addr h hpos
          obtain ⟨br, or_, rfl⟩ := ob_
          refine WL.val run_move rfl rfl ?_
          refine WL.val (run_extract rfl rfl) rfl rfl ?_
          refine WL.val (run_extract rfl rfl) rfl rfl ?_
          refine WL.val run_assign rfl rfl ?_
          refine WL.val run_assign rfl rfl ?_
          refine WL.nil ?_
          refine W.seq ?_
          refine W.region ?_
          refine WL.val run_move rfl rfl ?_
          refine WL.val (run_neqF rfl rfl (by decide)) rfl rfl ?_
          refine WL.val run_move rfl rfl ?_
          refine WL.val run_move rfl rfl ?_
          refine WL.val (run_indexAddr Try.underlying22 Try.sizeOf5 rfl rfl (by decide) (by show (0 : Int) < 8; decide)) rfl rfl ?_
          refine WL.val (run_load1 Try.isAgg5 rfl ((h.cellsO (v := .slice (some ⟨br, or_, none⟩) (oneB now).length (oneB now).length)).elem (i := 0) (vs := [.int .u8 now.toNat]) hpos rfl 0 _ rfl)) rfl rfl ?_
          refine WL.val run_move rfl rfl ?_
          refine WL.val (run_neqF rfl rfl (rfl)) rfl rfl ?_
          refine WL.val (run_pickF rfl) rfl rfl ?_
          refine WL.nil ?_
          refine W.condF rfl ?_
          refine W.skip ?_
          refine W.region ?_
          refine WL.val run_move rfl rfl ?_
          refine WL.val (run_add rfl rfl (by omega) (by omega)) rfl rfl ?_
          refine WL.val run_assign rfl rfl ?_
          refine WL.nil ?_
          -- round, path FLTF
          exact ⟨k + 1, ⟨_, _, now, mkE_of ⟨rfl, rfl, rfl, rfl, trivial⟩, by omega, hw, hN, hp, h.to⟩, by show l.length - (k + 1) < l.length - k; omega⟩
      · skip
        refine W.exit ?_
        refine W.seq ?_
        refine W.region ?_
        refine WL.val run_assign rfl rfl ?_
        refine WL.nil ?_
        refine W.ret ?_
        refine bodyQ.r1 (v := .bool _) Try.results6 rfl ?_
        -- path FLF
        exact ⟨rfl, h.to⟩

end Go.Proofs.Ytbpcmlekankgmaa
