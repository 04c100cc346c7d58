/-
  The laws of blocks. Lines of walks printed by a program of the prover's.
-/
import Derived.Test.YtbpcmlekankgmaaSpace2
namespace Go.Proofs.Ytbpcmlekankgmaa
open Go Go.Sl Go.Sl.BitM Go.Sl.SpM
set_option linter.unusedVariables false
set_option linter.unusedSimpArgs false
set_option maxHeartbeats 1000000
variable {W0 w : World} {L F : List HProp}


theorem natEq {p k : Nat} (h : (k : Int) = (p : Int)) : p = k := by omega
theorem cut_own {a : Option Addr} {c n k : Nat} {bs : List UInt8} (hn : bs.length = n) (hk : k ≤ n) (hc : n ≤ c) :
    ∃ a' c', sliced a k n c 1 = .slice a' (n - k) c' ∧ Gives [Own 1 (.slice a n c) n (bytesV bs)] (Cells 1 (.slice a' (n - k) c') (n - k) (bytesV (bs.drop k))) := by
  subst hn
  obtain ⟨a', c', h1, h2⟩ := cut_gives (L := [OwnB (.slice a bs.length c) bs]) (a := a) (c := c) (bs := bs) Gives.own hk hc
  unfold Bytes at h2
  rw [List.length_drop] at h1 h2
  exact ⟨a', c', h1, h2⟩
theorem natEq16 {q n : Nat} (h : n = 16 * q) (hn : n = 16) : q = 1 := by omega

theorem in_sp {b : Nat} {s : Sp} {at_ n : Int} (h : On W0 (SpP 55 b s :: L) w) : Calls Try.prog 29 #[.pointer (some ⟨b, 0, none⟩), .int .i64 at_, .int .i64 n] w (Ret fun v w' => ((v = .bool true ∧ inS s at_ n) ∨ (v = .bool false ∧ ¬ inS s at_ n)) ∧ On W0 (SpP 55 b s :: L) w') := by
  obtain ⟨gd, od, cd, am, cm, hw, h⟩ := openS h
  refine (in_s (at_ := at_) (n := n) hw.2.2.1 h).mono ?_
  rintro e w' ⟨v, rfl, hv, h⟩
  exact ⟨_, rfl, hv, closeS (cd := cd) (cm := cm) (gd := gd) (od := od) (am := am) hw h⟩

theorem sknown_ok (h : On W0 F w) : Calls Try.prog 13 #[] w (Ret fun v w' => v = .bool true ∧ On W0 F w') := by
  refine enter Try.func13 rfl Try.ntmps13 rfl ?_
  refine W.seq ?_
  refine W.region ?_
  refine WL.val run_assign rfl rfl ?_
  refine WL.nil ?_
  refine W.seq ?_
  refine W.region ?_
  refine WL.eff (eff_call Try.call14 (snew_ok h)) rfl rfl ?_
  rintro _ w hv
  rcases hv with ⟨N, hN, hn1, hn2, b, rfl, h⟩ | ⟨hno, _, _⟩
  rotate_left
  · exfalso; omega
  have ob_ : N = 4 := by omega
  obtain rfl := ob_
  refine WL.val run_move rfl rfl ?_
  refine WL.val (run_extract rfl rfl) rfl rfl ?_
  refine WL.val (run_extract rfl rfl) rfl rfl ?_
  refine WL.val run_assign rfl rfl ?_
  refine WL.val run_assign rfl rfl ?_
  refine WL.nil ?_
  refine W.seq ?_
  refine W.seq ?_
  refine W.region ?_
  refine WL.val run_move rfl rfl ?_
  refine WL.val (run_neqF rfl rfl (by decide)) rfl rfl ?_
  refine WL.val run_move rfl rfl ?_
  refine WL.val run_move rfl rfl ?_
  refine WL.val (run_eqlPtrNil Try.underlying32 rfl rfl) rfl rfl ?_
  refine WL.val (run_pickF rfl) rfl rfl ?_
  refine WL.nil ?_
  refine W.condF rfl ?_
  refine W.skip ?_
  refine W.seq ?_
  refine W.region ?_
  refine WL.val run_move rfl rfl ?_
  refine WL.eff (eff_mkRow (out := [.int .u8 _, .int .u8 _, .int .u8 _, .int .u8 _, .int .u8 _, .int .u8 _, .int .u8 _, .int .u8 _]) h Try.underlying22 Try.sizeOf5 Try.zeroValue5 rfl (by decide) rfl rfl rfl) rfl rfl ?_
  rintro _ w ⟨b22, rfl, h⟩
  refine WL.eff (eff_ofString h rfl (by omega) Try.underlying22 Try.underlying5) rfl rfl ?_
  rintro _ w ⟨rfl, h⟩
  refine WL.eff (eff_call Try.call15 (write_ok (s := newS 4) (bs := [97, 98, 99, 100, 101, 102, 103, 104]) (h.fetch (SpP 55 b (newS 4))) (Gives.ownO (v := .slice (some ⟨b22, 0, none⟩) 8 8)))) rfl rfl ?_
  rintro _ w hv
  rcases hv with ⟨p, hp, -, -, -, rfl, h⟩ | ⟨hno, _, _⟩
  rotate_left
  · exact (hno (by decide)).elim
  have hp1 : p = 1 := natEq (k := 1) hp
  subst hp1
  refine WL.val run_assign rfl rfl ?_
  refine WL.nil ?_
  refine W.seq ?_
  refine W.region ?_
  refine WL.val run_move rfl rfl ?_
  refine WL.eff (eff_call Try.call17 (read_ok h)) rfl rfl ?_
  rintro _ w hv
  rcases hv with ⟨p, q, hp, hq, -, -, a, hv, h⟩ | ⟨hno, _, _⟩
  rotate_left
  · exact (hno (by decide)).elim
  have hp1 : p = 0 := natEq (k := 0) hp
  subst hp1
  have hq1 : q = 2 := natEq (k := 2) hq
  subst hq1
  have e1 : partS (writeS (newS 4) 1 [97, 98, 99, 100, 101, 102, 103, 104]) 0 2 = [0, 0, 0, 0, 0, 0, 0, 0, 97, 98, 99, 100, 101, 102, 103, 104] := by decide
  rw [e1] at hv h
  have hv2 : _ = Value.tuple #[.slice a 16 16, .int .i64 0] := hv
  subst hv2
  have h : On W0 (Own 1 (.slice a 16 16) 16 (bytesV [0, 0, 0, 0, 0, 0, 0, 0, 97, 98, 99, 100, 101, 102, 103, 104]) :: _) w := h
  refine WL.val run_move rfl rfl ?_
  refine WL.val (run_extract rfl rfl) rfl rfl ?_
  refine WL.val (run_extract rfl rfl) rfl rfl ?_
  refine WL.val run_assign rfl rfl ?_
  refine WL.val run_assign rfl rfl ?_
  refine WL.nil ?_
  refine W.seq ?_
  refine W.region ?_
  refine WL.val run_move rfl rfl ?_
  refine WL.eff (eff_mkRow (out := [.int .u8 _, .int .u8 _, .int .u8 _, .int .u8 _, .int .u8 _, .int .u8 _, .int .u8 _, .int .u8 _, .int .u8 _, .int .u8 _, .int .u8 _, .int .u8 _, .int .u8 _, .int .u8 _, .int .u8 _, .int .u8 _]) h Try.underlying22 Try.sizeOf5 Try.zeroValue5 rfl (by decide) rfl rfl rfl) rfl rfl ?_
  rintro _ w ⟨b32, rfl, h⟩
  refine WL.eff (eff_ofString h rfl (by omega) Try.underlying22 Try.underlying5) rfl rfl ?_
  rintro _ w ⟨rfl, h⟩
  refine WL.eff (eff_call Try.call16 (compare_ok (s := (writeS (newS 4) 1 [97, 98, 99, 100, 101, 102, 103, 104])) (bs := [97, 98, 99, 100, 101, 102, 103, 104, 65, 66, 67, 68, 69, 70, 71, 72]) (h.fetch (SpP 55 b (writeS (newS 4) 1 [97, 98, 99, 100, 101, 102, 103, 104]))) (Gives.ownO (v := .slice (some ⟨b32, 0, none⟩) 16 16)))) rfl rfl ?_
  rintro _ w hv
  rcases hv with ⟨p, q, hp, hq, -, -, hv⟩ | ⟨hno, _, _⟩
  rotate_left
  · exact (hno (by decide)).elim
  have hp1 : p = 1 := natEq (k := 1) hp
  subst hp1
  have hq1 : q = 1 := natEq16 hq rfl
  subst hq1
  rcases hv with ⟨-, rfl, h⟩ | ⟨i, hi, hne, _, _, _⟩
  rotate_left
  · exfalso
    have : ∀ i, i < 8 → (partS (writeS (newS 4) 1 [97, 98, 99, 100, 101, 102, 103, 104]) 1 1)[i]? = ([97, 98, 99, 100, 101, 102, 103, 104, 65, 66, 67, 68, 69, 70, 71, 72] : List UInt8)[i]? := by decide
    exact hne (this i hi)
  have ob_ : ∃ s2, On W0 (SpP 55 b s2 :: _) w ∧ s2.N = 4 ∧ partS s2 1 1 = [65, 66, 67, 68, 69, 70, 71, 72] ∧ hasI (unmapS s2 1 1).m 1 = false := ⟨_, h, by decide, by decide, by decide⟩
  obtain ⟨s2, h, f1, f2, f3⟩ := ob_
  have f4 : (unmapS s2 1 1).N = 4 := f1
  have f5 : inS s2 1 1 := by unfold inS; rw [f1]; decide
  have f6 : inS (unmapS s2 1 1) 4 0 := by unfold inS; rw [f4]; decide
  have f7 : ¬ inS (unmapS s2 1 1) 4 1 := by unfold inS; rw [f4]; decide
  refine WL.val run_move rfl rfl ?_
  refine WL.val (run_extract rfl rfl) rfl rfl ?_
  refine WL.val (run_extract rfl rfl) rfl rfl ?_
  refine WL.val run_assign rfl rfl ?_
  refine WL.val run_assign rfl rfl ?_
  refine WL.nil ?_
  refine W.seq ?_
  refine W.region ?_
  refine WL.val run_move rfl rfl ?_
  refine WL.eff (eff_mkRow (out := [.int .u8 _, .int .u8 _, .int .u8 _, .int .u8 _, .int .u8 _, .int .u8 _, .int .u8 _, .int .u8 _, .int .u8 _, .int .u8 _, .int .u8 _, .int .u8 _, .int .u8 _, .int .u8 _, .int .u8 _, .int .u8 _]) h Try.underlying22 Try.sizeOf5 Try.zeroValue5 rfl (by decide) rfl rfl rfl) rfl rfl ?_
  rintro _ w ⟨b39, rfl, h⟩
  refine WL.eff (eff_ofString h rfl (by omega) Try.underlying22 Try.underlying5) rfl rfl ?_
  rintro _ w ⟨rfl, h⟩
  refine WL.eff (eff_call Try.call16 (compare_ok (s := s2) (bs := [97, 98, 99, 100, 101, 102, 103, 104, 65, 66, 67, 68, 69, 70, 71, 72]) (h.fetch (SpP 55 b s2)) (Gives.ownO (v := .slice (some ⟨b39, 0, none⟩) 16 16)))) rfl rfl ?_
  rintro _ w hv
  rcases hv with ⟨p, q, hp, hq, -, -, hv⟩ | ⟨hno, _, _⟩
  rotate_left
  · exact (hno ⟨by decide, f5⟩).elim
  have hp1 : p = 1 := natEq (k := 1) hp
  subst hp1
  have hq1 : q = 1 := natEq16 hq rfl
  subst hq1
  rw [f2] at hv
  rcases hv with ⟨hall, -⟩ | ⟨i, hi, -, hsame, rfl, h⟩
  · exact absurd hall (by decide)
  have hi1 : i = 0 := by
    have ob_ := Nat.eq_zero_or_pos i
    rcases ob_ with h0 | h0
    · exact h0
    · exact absurd (hsame 0 h0) (by decide)
  subst hi1
  refine WL.val run_move rfl rfl ?_
  refine WL.val (run_extract rfl rfl) rfl rfl ?_
  refine WL.val (run_extract rfl rfl) rfl rfl ?_
  refine WL.val run_assign rfl rfl ?_
  refine WL.val run_assign rfl rfl ?_
  refine WL.nil ?_
  refine W.seq ?_
  refine W.region ?_
  refine WL.val run_move rfl rfl ?_
  refine WL.eff (eff_call Try.call18 (unmap_ok h)) rfl rfl ?_
  rintro _ w hv
  rcases hv with ⟨p, q, hp, hq, -, -, rfl, h⟩ | ⟨hno, _, _⟩
  rotate_left
  · exact (hno f5).elim
  have hp1 : p = 1 := natEq (k := 1) hp
  subst hp1
  have hq1 : q = 1 := natEq (k := 1) hq
  subst hq1
  have X := cut_own (a := a) (c := 16) (n := 16) (k := 8) (bs := [0, 0, 0, 0, 0, 0, 0, 0, 97, 98, 99, 100, 101, 102, 103, 104]) rfl (by omega) (by omega)
  refine X.elim fun a2 X => X.elim fun c2 X => ?_
  have hcut := X.1
  have CC : Gives [Own 1 (.slice a 16 16) 16 (bytesV [0, 0, 0, 0, 0, 0, 0, 0, 97, 98, 99, 100, 101, 102, 103, 104])] (Cells 1 (.slice a2 (16 - 8) c2) (16 - 8) (bytesV [97, 98, 99, 100, 101, 102, 103, 104])) := X.2
  refine WL.val run_assign rfl rfl ?_
  refine WL.nil ?_
  refine W.seq ?_
  refine W.region ?_
  refine WL.val run_move rfl rfl ?_
  refine WL.val run_move rfl rfl ?_
  refine WL.val (run_add rfl rfl (by omega) (by omega)) rfl rfl ?_
  refine WL.val run_move rfl rfl ?_
  refine WL.val (run_add rfl rfl (by omega) (by omega)) rfl rfl ?_
  refine WL.val run_move rfl rfl ?_
  refine WL.val (run_add rfl rfl (by omega) (by omega)) rfl rfl ?_
  refine WL.val run_move rfl rfl ?_
  refine WL.val (run_add rfl rfl (by omega) (by omega)) rfl rfl ?_
  refine WL.val (run_eqlT rfl rfl (rfl)) rfl rfl ?_
  refine WL.val run_move rfl rfl ?_
  refine WL.val run_move rfl rfl ?_
  refine WL.val (run_cutLV (n := 16) (l := 8) Try.underlying22 Try.sizeOf5 rfl rfl (by omega) hcut) rfl rfl ?_
  refine WL.val (run_bytesStr Try.underlying22 Try.underlying5 Try.underlying9 rfl (h.readsTo CC)) rfl rfl ?_
  refine WL.val (run_eqlStrT rfl rfl (by simp only [Go.ByteArray.toList_eq])) rfl rfl ?_
  refine WL.val (run_pickT rfl) rfl rfl ?_
  refine WL.val run_move rfl rfl ?_
  refine WL.val run_move rfl rfl ?_
  refine WL.val (run_eqlT rfl rfl (rfl)) rfl rfl ?_
  refine WL.val (run_pickT rfl) rfl rfl ?_
  refine WL.val run_move rfl rfl ?_
  refine WL.val run_move rfl rfl ?_
  refine WL.val (run_eqlT rfl rfl (rfl)) rfl rfl ?_
  refine WL.val (run_pickT rfl) rfl rfl ?_
  refine WL.val run_move rfl rfl ?_
  refine WL.val run_move rfl rfl ?_
  refine WL.eff (eff_call Try.call19 (mapped_ok h)) rfl rfl ?_
  rintro _ w ⟨hv, h⟩
  rw [f3, Bool.and_false] at hv
  subst hv
  refine WL.val (run_not rfl) rfl rfl ?_
  refine WL.val (run_pickT rfl) rfl rfl ?_
  refine WL.val run_move rfl rfl ?_
  refine WL.val run_move rfl rfl ?_
  refine WL.eff (eff_call Try.call28 (blocks_ok h)) rfl rfl ?_
  rintro _ w ⟨hv, h⟩
  rw [f4] at hv
  subst hv
  refine WL.val (run_eqlT rfl rfl (rfl)) rfl rfl ?_
  refine WL.val (run_pickT rfl) rfl rfl ?_
  refine WL.val run_move rfl rfl ?_
  refine WL.val run_move rfl rfl ?_
  refine WL.eff (eff_call Try.call29 (in_sp (at_ := 4) (n := 0) h)) rfl rfl ?_
  rintro _ w ⟨hv, h⟩
  rcases hv with ⟨rfl, hi⟩ | ⟨rfl, hi⟩
  rotate_left
  · exact (hi f6).elim
  refine WL.val (run_pickT rfl) rfl rfl ?_
  refine WL.val run_move rfl rfl ?_
  refine WL.val run_move rfl rfl ?_
  refine WL.eff (eff_call Try.call29 (in_sp (at_ := 4) (n := 1) h)) rfl rfl ?_
  rintro _ w ⟨hv, h⟩
  rcases hv with ⟨rfl, hi⟩ | ⟨rfl, hi⟩
  · exact (f7 hi).elim
  refine WL.val (run_not rfl) rfl rfl ?_
  refine WL.val (run_pickT rfl) rfl rfl ?_
  refine WL.val run_assign rfl rfl ?_
  refine WL.nil ?_
  refine W.ret ?_
  refine bodyQ.r1 (v := .bool _) Try.results13 rfl ?_
  -- path 
  exact ⟨rfl, h.to⟩

end Go.Proofs.Ytbpcmlekankgmaa
