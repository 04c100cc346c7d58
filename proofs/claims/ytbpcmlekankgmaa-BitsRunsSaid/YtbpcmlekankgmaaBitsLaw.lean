/-
  The law of rows of bits. Lines of walks printed by a program of the prover's.
-/
import Derived.Test.YtbpcmlekankgmaaBits
import Derived.Test.YtbpcmlekankgmaaSlMake
import Derived.Test.YtbpcmlekankgmaaBitRows
namespace Go.Proofs.Ytbpcmlekankgmaa
open Go Go.Sl Go.Sl.BitM
set_option linter.unusedVariables false
set_option linter.unusedSimpArgs false
set_option maxHeartbeats 4000000
variable {W0 w : World} {L F : List HProp}

theorem bknown_ok (h : On W0 F w) : Calls Try.prog 8 #[] w (Ret fun v w' => v = .bool true ∧ On W0 F w') := by
  refine enter Try.func8 rfl Try.ntmps8 rfl ?_
  refine W.seq ?_
  refine W.region ?_
  refine WL.val run_assign rfl rfl ?_
  refine WL.nil ?_
  refine W.seq ?_
  refine W.region ?_
  refine WL.eff (eff_call Try.call10 (bnew_ok h)) rfl rfl ?_
  rintro _ w ⟨a, c, hv, h⟩
  rw [show newB 10 = [0, 0] by decide] at hv h
  have hv2 : _ = Value.slice a 2 c := hv
  subst hv2
  have h : On W0 (Own 1 (.slice a 2 c) 2 (bytesV [0, 0]) :: F) w := h
  refine WL.val run_assign rfl rfl ?_
  refine WL.nil ?_
  refine W.seq ?_
  refine W.region ?_
  refine WL.val run_move rfl rfl ?_
  refine WL.eff (eff_call Try.call11 (bset_ok h (by omega))) rfl rfl ?_
  rintro _ w ⟨hv, h⟩
  rw [show turns [0, 0] 2 3 true = 3 by decide] at hv
  subst hv
  rw [show turned [0, 0] 2 3 true = [28, 0] by decide] at h
  refine WL.val run_assign rfl rfl ?_
  refine WL.nil ?_
  refine W.seq ?_
  refine W.region ?_
  refine WL.val run_move rfl rfl ?_
  refine WL.eff (eff_call Try.call21 (bnext_ok (m := [28, 0]) (a0 := 0) h (Gives.ownO (v := .slice a 2 c)) rfl (by omega))) rfl rfl ?_
  rintro _ w ⟨hv, h⟩
  rw [show nx [28, 0] true 0 = some 2 by decide] at hv
  have hv2 : _ = Value.tuple #[.int .i64 2, .bool true] := hv
  subst hv2
  refine WL.val run_move rfl rfl ?_
  refine WL.val (run_extract rfl rfl) rfl rfl ?_
  refine WL.val (run_extract rfl rfl) rfl rfl ?_
  refine WL.val run_assign rfl rfl ?_
  refine WL.val run_assign rfl rfl ?_
  refine WL.nil ?_
  refine W.seq ?_
  refine W.region ?_
  refine WL.val run_move rfl rfl ?_
  refine WL.eff (eff_call Try.call9 (runs_ok (m := [28, 0]) h (Gives.ownO (v := .slice a 2 c)) (by omega))) rfl rfl ?_
  rintro _ w ⟨Rr, ar, hv, hRr, _, h⟩
  rw [show rowsOf [28, 0] = [(2, 3)] by decide] at hRr
  subst hRr
  have hv2 : _ = Value.slice ar 1 1 := hv
  subst hv2
  have h : On W0 (Own 2 (.slice ar 1 1) 1 [.int .i64 2, .int .i64 3] :: Own 1 (.slice a 2 c) 2 (bytesV [28, 0]) :: F) w := h
  obtain ⟨br, or_, har⟩ := Own.addr h (by omega)
  subst har
  refine WL.val run_assign rfl rfl ?_
  refine WL.nil ?_
  refine W.seq ?_
  refine W.region ?_
  refine WL.val run_move rfl rfl ?_
  refine WL.val (run_lenSlice Try.underlying25 rfl) rfl rfl ?_
  refine WL.val (run_eqlT rfl rfl (rfl)) rfl rfl ?_
  refine WL.val run_move rfl rfl ?_
  refine WL.val run_move rfl rfl ?_
  refine WL.val (run_eqlT rfl rfl (rfl)) rfl rfl ?_
  refine WL.val (run_pickT rfl) rfl rfl ?_
  refine WL.val run_move rfl rfl ?_
  refine WL.val run_move rfl rfl ?_
  refine WL.eff (eff_call Try.call12 (count_ok (m := [28, 0]) h (Gives.ownO (v := .slice a 2 c)) (by omega))) rfl rfl ?_
  rintro _ w ⟨hv, h⟩
  rw [show cnt [28, 0] (8 * 2) = 3 by decide] at hv
  subst hv
  refine WL.val (run_eqlT rfl rfl (rfl)) rfl rfl ?_
  refine WL.val (run_pickT rfl) rfl rfl ?_
  refine WL.val run_move rfl rfl ?_
  refine WL.val run_move rfl rfl ?_
  refine WL.val (run_eqlT rfl rfl (rfl)) rfl rfl ?_
  refine WL.val (run_pickT rfl) rfl rfl ?_
  refine WL.val run_move rfl rfl ?_
  refine WL.val run_move rfl rfl ?_
  refine WL.val (run_pickT rfl) rfl rfl ?_
  refine WL.val run_move rfl rfl ?_
  refine WL.val run_move rfl rfl ?_
  refine WL.val (run_lenSlice Try.underlying24 rfl) rfl rfl ?_
  refine WL.val (run_eqlT rfl rfl (rfl)) rfl rfl ?_
  refine WL.val (run_pickT rfl) rfl rfl ?_
  refine WL.val run_move rfl rfl ?_
  refine WL.val run_move rfl rfl ?_
  refine WL.val (run_indexAddr Try.underlying24 Try.sizeOf28 rfl rfl (by omega) (by omega)) rfl rfl ?_
  refine WL.val (run_loadN Try.isAgg28 Try.sizeOf28 rfl rfl ((h.cellsO (v := .slice (some ⟨br, or_, none⟩) 1 1)).elem (i := 0) (vs := [.int .i64 2, .int .i64 3]) (by omega) rfl)) rfl rfl ?_
  refine WL.val (run_buildA (out := [.int .i64 _, .int .i64 _]) Try.underlying28 Try.sizeOf3 Try.zeroValue28 rfl rfl (by simp) (⟨⟨_, _, rfl, rfl, by decide⟩, ⟨⟨_, _, rfl, rfl, by decide⟩, trivial⟩⟩) rfl) rfl rfl ?_
  refine WL.val (run_eqlPair Try.underlying28 Try.underlying3 Try.sizeOf3 Try.isAgg3 (by kernel_rfl) rfl rfl) rfl rfl ?_
  refine WL.val (run_pickT rfl) rfl rfl ?_
  refine WL.val run_move rfl rfl ?_
  refine WL.val run_move rfl rfl ?_
  refine WL.eff (eff_call Try.call22 (bunset_ok (m := [28, 0]) (h.fetch (Own 1 (.slice a 2 c) 2 (bytesV [28, 0]))) (by omega))) rfl rfl ?_
  rintro _ w ⟨hv, h⟩
  rw [show turns [28, 0] 3 1 false = 1 by decide] at hv
  subst hv
  rw [show turned [28, 0] 3 1 false = [20, 0] by decide] at h
  refine WL.val (run_eqlT rfl rfl (rfl)) rfl rfl ?_
  refine WL.val (run_pickT rfl) rfl rfl ?_
  refine WL.val run_move rfl rfl ?_
  refine WL.val run_move rfl rfl ?_
  refine WL.eff (eff_call Try.call23 (has_ok (m := [20, 0]) h (Gives.ownO (v := .slice a 2 c)) (by omega))) rfl rfl ?_
  rintro _ w ⟨hv, h⟩
  rw [show hasI [20, 0] 3 = false by decide] at hv
  subst hv
  refine WL.val (run_not rfl) rfl rfl ?_
  refine WL.val (run_pickT rfl) rfl rfl ?_
  refine WL.val run_move rfl rfl ?_
  refine WL.val run_move rfl rfl ?_
  refine WL.val run_move rfl rfl ?_
  refine WL.eff (eff_call Try.call25 (or_ok (ma := [20, 0]) (mb := []) h (Gives.ownO (v := .slice a 2 c)) Gives.nilB (by omega) (by omega))) rfl rfl ?_
  rintro _ w ⟨b, hv, h⟩
  rw [show eachB (fun x y => x ||| y) [20, 0] [] (max 2 0) = [20, 0] by decide] at h
  have hv2 : _ = Value.slice (some ⟨b, 0, none⟩) 2 2 := hv
  subst hv2
  have h : On W0 (Own 1 (.slice (some ⟨b, 0, none⟩) 2 2) 2 (bytesV [20, 0]) :: _) w := h
  refine WL.eff (eff_call Try.call24 (bsame_ok (ma := [20, 0]) (mb := [20, 0]) h (Gives.ownO (v := .slice a 2 c)) (Gives.ownO (v := .slice (some ⟨b, 0, none⟩) 2 2)) (by omega) (by omega))) rfl rfl ?_
  rintro _ w ⟨hv, h⟩
  rw [show (decide ((cnt (eachB (fun x y => x ^^^ y) [20, 0] [20, 0] (max 2 2)) (8 * max 2 2) : Int) = 0)) = true by decide] at hv
  subst hv
  refine WL.val (run_pickT rfl) rfl rfl ?_
  refine WL.val run_assign rfl rfl ?_
  refine WL.nil ?_
  refine W.ret ?_
  refine bodyQ.r1 (v := .bool _) Try.results8 rfl ?_
  -- path 
  exact ⟨rfl, h.to⟩

theorem runs_law {a : Option Addr} {n c : Nat} {m : List UInt8} (h : On W0 F w) (C : Gives F (Cells 1 (.slice a n c) n (bytesV m))) :
    Calls Try.prog 3 #[.slice a n c] w (Ret fun v w' => v = .bool true ∧ On W0 F w') := by
  refine enter Try.func3 rfl Try.ntmps3 rfl ?_
  have hml : m.length = n := by have := (h.reads C).1; simpa using this
  obtain ⟨hc1, hc2⟩ := (h.reads C).bounds
  refine W.seq ?_
  refine W.region ?_
  refine WL.val run_assign rfl rfl ?_
  refine WL.nil ?_
  refine W.seq ?_
  refine W.seq ?_
  refine W.region ?_
  refine WL.eff (eff_call Try.call8 (bknown_ok h)) rfl rfl ?_
  rintro _ w ⟨rfl, h⟩
  refine WL.val (run_not rfl) rfl rfl ?_
  refine WL.nil ?_
  refine W.condF rfl ?_
  refine W.skip ?_
  refine W.seq ?_
  refine W.seq ?_
  refine W.region ?_
  refine WL.val run_move rfl rfl ?_
  refine WL.val (run_lenSlice Try.underlying22 rfl) rfl rfl ?_
  refine WL.val (run_gtr rfl rfl) rfl rfl ?_
  refine WL.nil ?_
  refine W.condIf rfl (fun c7 => ?_) (fun c7 => ?_)
  · skip
    refine W.seq ?_
    refine W.region ?_
    refine WL.val run_assign rfl rfl ?_
    refine WL.nil ?_
    refine W.ret ?_
    refine bodyQ.r1 (v := .bool _) Try.results3 rfl ?_
    -- path T
    exact ⟨rfl, h⟩
  · skip
    refine W.skip ?_
    refine W.seq ?_
    refine W.region ?_
    refine WL.val run_move rfl rfl ?_
    refine WL.eff (eff_call Try.call9 (runs_ok h C (by omega))) rfl rfl ?_
    rintro _ w ⟨Rr, ar, rfl, rfl, hR, h⟩
    have hfew := hR.few
    refine WL.val run_assign rfl rfl ?_
    refine WL.nil ?_
    refine W.seq ?_
    refine W.region ?_
    refine WL.val run_move rfl rfl ?_
    refine WL.val (run_lenSlice Try.underlying22 rfl) rfl rfl ?_
    refine WL.val (run_mulN (m := 8) (n := n) rfl rfl (by omega)) rfl rfl ?_
    refine WL.eff (eff_call Try.call10 (bnew_ok h)) rfl rfl ?_
    rintro _ w ⟨ax, cx, hv, h⟩
    rw [newB_8 (by omega), List.length_replicate] at hv h
    subst hv
    refine WL.val run_assign rfl rfl ?_
    refine WL.nil ?_
    refine W.seq ?_
    refine W.region ?_
    refine WL.val run_assign rfl rfl ?_
    refine WL.nil ?_
    refine W.seq ?_
    refine W.seq ?_
    refine W.region ?_
    refine WL.val run_assign rfl rfl ?_
    refine WL.nil ?_
    refine W.block ?_
    refine W.loop (fun (i : Nat) env w => ∃ j xs, env = mkE j [(0, .slice a n c), (3, .slice ar (rowsOf m).length (rowsOf m).length), (4, .slice ax n cx), (5, .int .i64 ((cnt xs (8 * n) : Nat) : Int)), (6, .int .i64 (i : Int))] ∧ i ≤ (rowsOf m).length ∧ xs.length = n ∧ (∀ j, (bit xs j = true ↔ ∃ r ∈ (rowsOf m).take i, r.1 ≤ j ∧ j < r.1 + r.2)) ∧ On W0 (Own 1 (.slice ax n cx) n (bytesV xs) :: Own 2 (.slice ar (rowsOf m).length (rowsOf m).length) (rowsOf m).length ((rowsOf m).flatMap rowc) :: F) w) (fun i => (rowsOf m).length - i) (0) ?_ ?_
    · exact ⟨_, List.replicate n 0, mkE_of ⟨rfl, rfl, rfl, (by rw [cnt_none (bit_zero n)]; rfl), rfl, trivial⟩, Nat.zero_le _, by simp, (fun j => by rw [bit_zero]; simp), h⟩
    · rintro i env w ⟨j, xs, rfl, hi, hxl, hxs, h⟩
      have hcl := cnt_le xs (8 * n)
      refine W.seq ?_
      refine W.seq ?_
      refine W.region ?_
      refine WL.val run_move rfl rfl ?_
      refine WL.val run_move rfl rfl ?_
      refine WL.val (run_lenSlice Try.underlying24 rfl) rfl rfl ?_
      refine WL.val (run_lss rfl rfl) rfl rfl ?_
      refine WL.nil ?_
      refine W.condIf rfl (fun c18 => ?_) (fun c18 => ?_)
      · skip
        refine W.skip ?_
        refine W.seq ?_
        have hil : i < (rowsOf m).length := by omega
        obtain ⟨br, or_, har⟩ := Own.addr h.p1 (by omega)
        subst har
        obtain ⟨q, hq⟩ : ∃ q, (rowsOf m)[i]? = some q := ⟨(rowsOf m)[i], by simp⟩
        obtain ⟨hq1, hq2⟩ := hR.pos q (List.mem_of_getElem? hq)
        obtain ⟨hst1, hst2⟩ := rows_step hR (by omega) hxs hq
        have hct := cnt_le (turned xs q.1 q.2 true) (8 * m.length)
        obtain ⟨q', hq', hlt⟩ : ∃ q', (0 < i → (rowsOf m)[i - 1]? = some q' ∧ q'.1 + q'.2 ≤ 8 * n) ∧ (0 < i → q'.1 + q'.2 < q.1) := by
          rcases Nat.eq_zero_or_pos i with h0 | h0
          · exact ⟨(0, 0), by omega, by omega⟩
          · have hg : (rowsOf m)[i - 1]? = some ((rowsOf m)[i - 1]'(by omega)) := by simp
            refine ⟨_, fun _ => ⟨hg, ?_⟩, fun _ => hR.apart (i - 1) _ q hg (by rw [show i - 1 + 1 = i by omega]; exact hq)⟩
            have := (hR.pos _ (List.mem_of_getElem? hg)).2
            omega
        refine W.block ?_
        refine W.seq ?_
        refine W.seq ?_
        refine W.draw Try.follows h (fun w h => ?_)
        refine WT.pure 0 rfl (by kernel_rfl) (fun w' => run_move) rfl rfl ?_
        refine WT.pure 1 rfl (by kernel_rfl) (fun w' => run_move) rfl rfl ?_
        refine WT.pure 2 rfl (by kernel_rfl) (fun w' => (run_indexAddr Try.underlying24 Try.sizeOf28 rfl rfl (by omega) (by omega))) rfl rfl ?_
        refine WT.pure 3 rfl (by kernel_rfl) (fun w' => (run_indexAddrArr Try.underlying28 Try.sizeOf3 rfl rfl (by omega) (by omega))) rfl rfl ?_
        refine WT.load1 4 rfl (by kernel_rfl) Try.isAgg3 rfl ((h.cellsO (v := .slice (some ⟨br, or_, none⟩) (rowsOf m).length (rowsOf m).length)).elem (i := i) (vs := rowc q) (by omega) (drop_flatMap rowc 2 rowc_length (rowsOf m) _ _ hq) 1 _ rfl) rfl rfl ?_
        refine WT.pure 5 rfl (by kernel_rfl) (fun w' => run_lssF rfl rfl (by omega)) rfl rfl ?_
        refine WT.pure 6 rfl (by kernel_rfl) (fun w' => run_move) rfl rfl ?_
        refine WT.pure 7 rfl (by kernel_rfl) (fun w' => run_move) rfl rfl ?_
        refine WT.dec 8 rfl (by kernel_rfl) (fun w' => (run_gtr rfl rfl)) rfl rfl (fun c32 => ?_) (fun c32 => ?_)
        · skip
          refine WT.pure 9 rfl (by kernel_rfl) (fun w' => run_move) rfl rfl ?_
          refine WT.pure 10 rfl (by kernel_rfl) (fun w' => run_move) rfl rfl ?_
          refine WT.pure 11 rfl (by kernel_rfl) (fun w' => run_move) rfl rfl ?_
          refine WT.pure 12 rfl (by kernel_rfl) (fun w' => (run_indexAddr Try.underlying24 Try.sizeOf28 rfl rfl (by omega) (by omega))) rfl rfl ?_
          refine WT.pure 13 rfl (by kernel_rfl) (fun w' => (run_indexAddrArr Try.underlying28 Try.sizeOf3 rfl rfl (by omega) (by omega))) rfl rfl ?_
          refine WT.load1 14 rfl (by kernel_rfl) Try.isAgg3 rfl ((h.cellsO (v := .slice (some ⟨br, or_, none⟩) (rowsOf m).length (rowsOf m).length)).elem (i := i) (vs := rowc q) (by omega) (drop_flatMap rowc 2 rowc_length (rowsOf m) _ _ hq) 0 _ rfl) rfl rfl ?_
          refine WT.pure 15 rfl (by kernel_rfl) (fun w' => run_move) rfl rfl ?_
          refine WT.pure 16 rfl (by kernel_rfl) (fun w' => run_move) rfl rfl ?_
          refine WT.pure 17 rfl (by kernel_rfl) (fun w' => (run_subN (m := i) (n := 1) rfl rfl (by omega) (by omega))) rfl rfl ?_
          refine WT.pure 18 rfl (by kernel_rfl) (fun w' => (run_indexAddr Try.underlying24 Try.sizeOf28 rfl rfl (by omega) (by omega))) rfl rfl ?_
          refine WT.pure 19 rfl (by kernel_rfl) (fun w' => (run_indexAddrArr Try.underlying28 Try.sizeOf3 rfl rfl (by omega) (by omega))) rfl rfl ?_
          refine WT.load1 20 rfl (by kernel_rfl) Try.isAgg3 rfl ((h.cellsO (v := .slice (some ⟨br, or_, none⟩) (rowsOf m).length (rowsOf m).length)).elem (i := i - 1) (vs := rowc q') (by omega) (drop_flatMap rowc 2 rowc_length (rowsOf m) _ _ (hq' (by omega)).1) 0 _ rfl) rfl rfl ?_
          refine WT.pure 21 rfl (by kernel_rfl) (fun w' => run_move) rfl rfl ?_
          refine WT.pure 22 rfl (by kernel_rfl) (fun w' => run_move) rfl rfl ?_
          refine WT.pure 23 rfl (by kernel_rfl) (fun w' => (run_subN (m := i) (n := 1) rfl rfl (by omega) (by omega))) rfl rfl ?_
          refine WT.pure 24 rfl (by kernel_rfl) (fun w' => (run_indexAddr Try.underlying24 Try.sizeOf28 rfl rfl (by omega) (by omega))) rfl rfl ?_
          refine WT.pure 25 rfl (by kernel_rfl) (fun w' => (run_indexAddrArr Try.underlying28 Try.sizeOf3 rfl rfl (by omega) (by omega))) rfl rfl ?_
          refine WT.load1 26 rfl (by kernel_rfl) Try.isAgg3 rfl ((h.cellsO (v := .slice (some ⟨br, or_, none⟩) (rowsOf m).length (rowsOf m).length)).elem (i := i - 1) (vs := rowc q') (by omega) (drop_flatMap rowc 2 rowc_length (rowsOf m) _ _ (hq' (by omega)).1) 1 _ rfl) rfl rfl ?_
          refine WT.pure 27 rfl (by kernel_rfl) (fun w' => (run_addN (m := q'.1) (n := q'.2) rfl rfl (by have := (hq' (by omega)).2; omega))) rfl rfl ?_
          refine WT.pure 28 rfl (by kernel_rfl) (fun w' => run_leqF rfl rfl (by have := hlt (by omega); omega)) rfl rfl ?_
          refine WT.pure 29 rfl (by kernel_rfl) (fun w' => (run_pickT rfl)) rfl rfl ?_
          refine WT.pure 30 rfl (by kernel_rfl) (fun w' => (run_pickF rfl)) rfl rfl ?_
          refine WT.done (by kernel_rfl) ?_
          refine W.condF rfl ?_
          refine W.skip ?_
          refine W.draw Try.follows h (fun w h => ?_)
          refine WT.pure 0 rfl (by kernel_rfl) (fun w' => run_move) rfl rfl ?_
          refine WT.pure 1 rfl (by kernel_rfl) (fun w' => run_move) rfl rfl ?_
          refine WT.pure 2 rfl (by kernel_rfl) (fun w' => run_move) rfl rfl ?_
          refine WT.pure 3 rfl (by kernel_rfl) (fun w' => run_move) rfl rfl ?_
          refine WT.pure 4 rfl (by kernel_rfl) (fun w' => (run_indexAddr Try.underlying24 Try.sizeOf28 rfl rfl (by omega) (by omega))) rfl rfl ?_
          refine WT.pure 5 rfl (by kernel_rfl) (fun w' => (run_indexAddrArr Try.underlying28 Try.sizeOf3 rfl rfl (by omega) (by omega))) rfl rfl ?_
          refine WT.load1 6 rfl (by kernel_rfl) Try.isAgg3 rfl ((h.cellsO (v := .slice (some ⟨br, or_, none⟩) (rowsOf m).length (rowsOf m).length)).elem (i := i) (vs := rowc q) (by omega) (drop_flatMap rowc 2 rowc_length (rowsOf m) _ _ hq) 0 _ rfl) rfl rfl ?_
          refine WT.pure 7 rfl (by kernel_rfl) (fun w' => run_move) rfl rfl ?_
          refine WT.pure 8 rfl (by kernel_rfl) (fun w' => run_move) rfl rfl ?_
          refine WT.pure 9 rfl (by kernel_rfl) (fun w' => (run_indexAddr Try.underlying24 Try.sizeOf28 rfl rfl (by omega) (by omega))) rfl rfl ?_
          refine WT.pure 10 rfl (by kernel_rfl) (fun w' => (run_indexAddrArr Try.underlying28 Try.sizeOf3 rfl rfl (by omega) (by omega))) rfl rfl ?_
          refine WT.load1 11 rfl (by kernel_rfl) Try.isAgg3 rfl ((h.cellsO (v := .slice (some ⟨br, or_, none⟩) (rowsOf m).length (rowsOf m).length)).elem (i := i) (vs := rowc q) (by omega) (drop_flatMap rowc 2 rowc_length (rowsOf m) _ _ hq) 1 _ rfl) rfl rfl ?_
          refine WT.eff 12 [false, false] rfl (by kernel_rfl) (by kernel_rfl) (eff_call Try.call11 (bset_ok h (by omega))) rfl rfl ?_
          rintro _ w ⟨rfl, h⟩
          refine ⟨trivial, ?_⟩
          refine WT.pure 13 rfl (by kernel_rfl) (fun w' => (run_addN (m := cnt xs (8 * n)) (n := turns xs q.1 q.2 true) rfl rfl (by rw [hml] at hst2 hct; omega))) rfl rfl ?_
          refine WT.pure 14 rfl (by kernel_rfl) (fun w' => run_assign) rfl rfl ?_
          refine WT.done (by kernel_rfl) ?_
          refine W.region ?_
          refine WL.val run_move rfl rfl ?_
          refine WL.val (run_add rfl rfl (by omega) (by omega)) rfl rfl ?_
          refine WL.val run_assign rfl rfl ?_
          refine WL.nil ?_
          -- round, path FLTT
          exact ⟨i + 1, ⟨_, turned xs q.1 q.2 true, mkE_of ⟨rfl, rfl, rfl, (by show Value.int .i64 ((cnt xs (8 * n) + turns xs q.1 q.2 true : Nat) : Int) = _; rw [← hml, hst2, hml]), rfl, trivial⟩, by omega, by rw [turned_length]; exact hxl, hst1, h⟩, by show (rowsOf m).length - (i + 1) < (rowsOf m).length - i; omega⟩
        · skip
          refine WT.pure 9 rfl (by kernel_rfl) (fun w' => run_move) rfl rfl ?_
          refine WT.skip 10 rfl (by kernel_rfl) rfl rfl ?_
          refine WT.skip 11 rfl (by kernel_rfl) rfl rfl ?_
          refine WT.skip 12 rfl (by kernel_rfl) rfl rfl ?_
          refine WT.skip 13 rfl (by kernel_rfl) rfl rfl ?_
          refine WT.skip 14 rfl (by kernel_rfl) rfl rfl ?_
          refine WT.skip 15 rfl (by kernel_rfl) rfl rfl ?_
          refine WT.skip 16 rfl (by kernel_rfl) rfl rfl ?_
          refine WT.skip 17 rfl (by kernel_rfl) rfl rfl ?_
          refine WT.skip 18 rfl (by kernel_rfl) rfl rfl ?_
          refine WT.skip 19 rfl (by kernel_rfl) rfl rfl ?_
          refine WT.skip 20 rfl (by kernel_rfl) rfl rfl ?_
          refine WT.skip 21 rfl (by kernel_rfl) rfl rfl ?_
          refine WT.skip 22 rfl (by kernel_rfl) rfl rfl ?_
          refine WT.skip 23 rfl (by kernel_rfl) rfl rfl ?_
          refine WT.skip 24 rfl (by kernel_rfl) rfl rfl ?_
          refine WT.skip 25 rfl (by kernel_rfl) rfl rfl ?_
          refine WT.skip 26 rfl (by kernel_rfl) rfl rfl ?_
          refine WT.skip 27 rfl (by kernel_rfl) rfl rfl ?_
          refine WT.skip 28 rfl (by kernel_rfl) rfl rfl ?_
          refine WT.pure 29 rfl (by kernel_rfl) (fun w' => (run_pickF rfl)) rfl rfl ?_
          refine WT.pure 30 rfl (by kernel_rfl) (fun w' => (run_pickF rfl)) rfl rfl ?_
          refine WT.done (by kernel_rfl) ?_
          refine W.condF rfl ?_
          refine W.skip ?_
          refine W.draw Try.follows h (fun w h => ?_)
          refine WT.pure 0 rfl (by kernel_rfl) (fun w' => run_move) rfl rfl ?_
          refine WT.pure 1 rfl (by kernel_rfl) (fun w' => run_move) rfl rfl ?_
          refine WT.pure 2 rfl (by kernel_rfl) (fun w' => run_move) rfl rfl ?_
          refine WT.pure 3 rfl (by kernel_rfl) (fun w' => run_move) rfl rfl ?_
          refine WT.pure 4 rfl (by kernel_rfl) (fun w' => (run_indexAddr Try.underlying24 Try.sizeOf28 rfl rfl (by omega) (by omega))) rfl rfl ?_
          refine WT.pure 5 rfl (by kernel_rfl) (fun w' => (run_indexAddrArr Try.underlying28 Try.sizeOf3 rfl rfl (by omega) (by omega))) rfl rfl ?_
          refine WT.load1 6 rfl (by kernel_rfl) Try.isAgg3 rfl ((h.cellsO (v := .slice (some ⟨br, or_, none⟩) (rowsOf m).length (rowsOf m).length)).elem (i := i) (vs := rowc q) (by omega) (drop_flatMap rowc 2 rowc_length (rowsOf m) _ _ hq) 0 _ rfl) rfl rfl ?_
          refine WT.pure 7 rfl (by kernel_rfl) (fun w' => run_move) rfl rfl ?_
          refine WT.pure 8 rfl (by kernel_rfl) (fun w' => run_move) rfl rfl ?_
          refine WT.pure 9 rfl (by kernel_rfl) (fun w' => (run_indexAddr Try.underlying24 Try.sizeOf28 rfl rfl (by omega) (by omega))) rfl rfl ?_
          refine WT.pure 10 rfl (by kernel_rfl) (fun w' => (run_indexAddrArr Try.underlying28 Try.sizeOf3 rfl rfl (by omega) (by omega))) rfl rfl ?_
          refine WT.load1 11 rfl (by kernel_rfl) Try.isAgg3 rfl ((h.cellsO (v := .slice (some ⟨br, or_, none⟩) (rowsOf m).length (rowsOf m).length)).elem (i := i) (vs := rowc q) (by omega) (drop_flatMap rowc 2 rowc_length (rowsOf m) _ _ hq) 1 _ rfl) rfl rfl ?_
          refine WT.eff 12 [false, false] rfl (by kernel_rfl) (by kernel_rfl) (eff_call Try.call11 (bset_ok h (by omega))) rfl rfl ?_
          rintro _ w ⟨rfl, h⟩
          refine ⟨trivial, ?_⟩
          refine WT.pure 13 rfl (by kernel_rfl) (fun w' => (run_addN (m := cnt xs (8 * n)) (n := turns xs q.1 q.2 true) rfl rfl (by rw [hml] at hst2 hct; omega))) rfl rfl ?_
          refine WT.pure 14 rfl (by kernel_rfl) (fun w' => run_assign) rfl rfl ?_
          refine WT.done (by kernel_rfl) ?_
          refine W.region ?_
          refine WL.val run_move rfl rfl ?_
          refine WL.val (run_add rfl rfl (by omega) (by omega)) rfl rfl ?_
          refine WL.val run_assign rfl rfl ?_
          refine WL.nil ?_
          -- round, path FLTF
          exact ⟨i + 1, ⟨_, turned xs q.1 q.2 true, mkE_of ⟨rfl, rfl, rfl, (by show Value.int .i64 ((cnt xs (8 * n) + turns xs q.1 q.2 true : Nat) : Int) = _; rw [← hml, hst2, hml]), rfl, trivial⟩, by omega, by rw [turned_length]; exact hxl, hst1, h⟩, by show (rowsOf m).length - (i + 1) < (rowsOf m).length - i; omega⟩
      · skip
        refine W.exit ?_
        refine W.seq ?_
        obtain rfl : i = (rowsOf m).length := by omega
        obtain rfl := rows_full hR (by omega) hxs
        refine W.region ?_
        refine WL.val run_move rfl rfl ?_
        refine WL.val run_move rfl rfl ?_
        refine WL.eff (eff_call Try.call12 (count_ok h (Gives.to C) (by omega))) rfl rfl ?_
        rintro _ w ⟨rfl, h⟩
        refine WL.val (run_eqlT rfl rfl (rfl)) rfl rfl ?_
        refine WL.val run_move rfl rfl ?_
        refine WL.val run_move rfl rfl ?_
        refine WL.val (run_bytesStr Try.underlying25 Try.underlying5 Try.underlying9 rfl (h.cellsO (v := .slice ax n cx))) rfl rfl ?_
        refine WL.val run_move rfl rfl ?_
        refine WL.val (run_bytesStr Try.underlying22 Try.underlying5 Try.underlying9 rfl (h.reads (Gives.to C))) rfl rfl ?_
        refine WL.val (run_eqlStrT rfl rfl (rfl)) rfl rfl ?_
        refine WL.val (run_pickT rfl) rfl rfl ?_
        refine WL.val run_assign rfl rfl ?_
        refine WL.nil ?_
        refine W.ret ?_
        refine bodyQ.r1 (v := .bool _) Try.results3 rfl ?_
        -- path FLF
        exact ⟨rfl, h.to⟩

end Go.Proofs.Ytbpcmlekankgmaa
