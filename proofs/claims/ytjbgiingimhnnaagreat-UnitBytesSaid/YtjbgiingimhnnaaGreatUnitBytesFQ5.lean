/-
  A unit: numbers sorted: partitions: the contracts. Lines of walks printed by a program of the prover's.
-/
import Derived.Test.YtjbgiingimhnnaaGreatUnitBytesFQ4
namespace Go.Proofs.YtjbgiingimhnnaaGreat
open Go.Proofs.Tryz
open Go Go.Sl Go.Sl.BitM Go.Sl.SpM Go.Sl.RsM Go.Sl.ByM Go.Sl.UnM
set_option linter.unusedVariables false
set_option linter.unusedSimpArgs false
set_option maxHeartbeats 1000000
set_option maxRecDepth 8000
variable {Q : Int → Prop} {W0 w : World} {L F : List HProp}
theorem parteq_ok {bd od n cp : Nat} {a b p : Int} (h0 : 0 ≤ a) (h1 : a ≤ p) (h3 : p < b) (h2 : b ≤ (n : Int)) (hn : n < 65536) (h : On W0 (RowU Q (.slice (some ⟨bd, od, none⟩) n cp) n :: L) w) : Calls Tryz.prog 158 #[.slice (some ⟨bd, od, none⟩) n cp, .int .i64 a, .int .i64 b, .int .i64 p] w (Ret fun v w' => ∃ m : Int, a < m ∧ m ≤ b ∧ v = .int .i64 m ∧ On W0 (RowU Q (.slice (some ⟨bd, od, none⟩) n cp) n :: L) w') := by
  refine enter func158 rfl ntmps158 rfl ?_
  have hmx := maxLen_eq
  refine W.seq (W.region (WL.val run_assign rfl rfl (WL.nil (W.seq ?_))))
  refine W.draw Tryz.follows h (fun w h => ?_)
  refine WT.pure 0 rfl (by kernel_rfl) (fun w' => run_move) rfl rfl (WT.pure 1 rfl (by kernel_rfl) (fun w' => run_move) rfl rfl (WT.pure 2 rfl (by kernel_rfl) (fun w' => run_move) rfl rfl (WT.pure 3 rfl (by kernel_rfl) (fun w' => run_move) rfl rfl (WT.pure 4 rfl (by kernel_rfl) (fun w' => run_move) rfl rfl (WT.pure 5 rfl (by kernel_rfl) (fun w' => run_move) rfl rfl (WT.pure 6 rfl (by kernel_rfl) (fun w' => (run_indexAddr underlying129 sizeOf23 rfl rfl (by omega) (by omega))) rfl rfl (WT.load1 7 rfl (by kernel_rfl) isAgg23 rfl (RowU.cellZ h (by omega) (by omega)) rfl rfl ?_)))))))
  refine WT.pure 8 rfl (by kernel_rfl) (fun w' => run_move) rfl rfl (WT.pure 9 rfl (by kernel_rfl) (fun w' => run_move) rfl rfl (WT.pure 10 rfl (by kernel_rfl) (fun w' => (run_indexAddr underlying129 sizeOf23 rfl rfl (by omega) (by omega))) rfl rfl (WT.load1 11 rfl (by kernel_rfl) isAgg23 rfl (RowU.cellZ h (by omega) (by omega)) rfl rfl (WT.pure 12 rfl (by kernel_rfl) (fun w' => (run_indexAddr underlying129 sizeOf23 rfl rfl (by omega) (by omega))) rfl rfl (WT.eff 13 [false, false] rfl (by kernel_rfl) (by kernel_rfl) (eff_setRK (RowU.cellQ (i := a) h (by omega) (by omega)) h sizeOf23 rfl rfl (by omega) (by omega) (RowU.cellQ h (by omega) (by omega))) rfl rfl ?_)))))
  rintro _ w ⟨hqK, h⟩
  refine ⟨trivial, ?_⟩
  refine WT.pure 14 rfl (by kernel_rfl) (fun w' => (run_indexAddr underlying129 sizeOf23 rfl rfl (by omega) (by omega))) rfl rfl (WT.eff 15 [] rfl (by kernel_rfl) (by kernel_rfl) (eff_setR h sizeOf23 rfl rfl (by omega) (by omega) hqK) rfl rfl ?_)
  rintro _ w h
  refine ⟨trivial, ?_⟩
  refine WT.done (by kernel_rfl) (W.seq (W.region (WL.val run_move rfl rfl (WL.val (run_add rfl rfl (by omega) (by omega)) rfl rfl (WL.val run_move rfl rfl (WL.val (run_sub rfl rfl (by omega) (by omega)) rfl rfl (WL.val run_assign rfl rfl ?_)))))))
  refine WL.val run_assign rfl rfl (WL.nil (W.seq (W.block ?_)))
  refine W.loop (fun (s : Int × Int) env w => (a + 1 ≤ s.1 ∧ s.1 ≤ b ∧ s.1 ≤ s.2 + 2 ∧ a ≤ s.2 ∧ s.2 < b) ∧ ∃ jk, env = mkE jk [(0, .slice (some ⟨bd, od, none⟩) n cp), (1, .int .i64 a), (9, .int .i64 s.1), (10, .int .i64 s.2)] ∧ On W0 (RowU Q (.slice (some ⟨bd, od, none⟩) n cp) n :: L) w) (fun s => (s.2 + 1 - s.1).toNat) ((a + 1, b - 1)) ?_ ?_
  · exact ⟨by (try dsimp only); omega, _, mkE_of ⟨rfl, rfl, rfl, rfl, trivial⟩, h⟩
  rintro ⟨i0, j0⟩ env w ⟨hI7, jk, rfl, h⟩
  try dsimp only at hI7
  refine W.block (W.seq (W.block ?_))
  refine W.loop (fun (s : Int) env w => (i0 ≤ s ∧ (s ≤ j0 + 1 ∨ s = i0)) ∧ ∃ jk, env = mkE jk [(0, .slice (some ⟨bd, od, none⟩) n cp), (1, .int .i64 a), (9, .int .i64 s), (10, .int .i64 j0)] ∧ On W0 (RowU Q (.slice (some ⟨bd, od, none⟩) n cp) n :: L) w) (fun s => (j0 + 1 - s).toNat) (i0) ?_ ?_
  · exact ⟨by (try dsimp only); omega, _, mkE_of ⟨rfl, rfl, rfl, rfl, trivial⟩, h⟩
  rintro i env w ⟨hI8, jk, rfl, h⟩
  refine W.seq (W.seq ?_)
  refine W.draw Tryz.follows h (fun w h => ?_)
  refine WT.pure 0 rfl (by kernel_rfl) (fun w' => run_move) rfl rfl (WT.pure 1 rfl (by kernel_rfl) (fun w' => run_move) rfl rfl ?_)
  refine WT.dec 2 rfl (by kernel_rfl) (fun w' => (run_leq rfl rfl)) rfl rfl (fun c31 => ?_) (fun c31 => ?_)
  ·
   refine WT.pure 3 rfl (by kernel_rfl) (fun w' => run_move) rfl rfl (WT.pure 4 rfl (by kernel_rfl) (fun w' => run_move) rfl rfl (WT.pure 5 rfl (by kernel_rfl) (fun w' => run_move) rfl rfl (WT.pure 6 rfl (by kernel_rfl) (fun w' => (run_indexAddr underlying129 sizeOf23 rfl rfl (by omega) (by omega))) rfl rfl (WT.load1 7 rfl (by kernel_rfl) isAgg23 rfl (RowU.cellZ h (by omega) (by omega)) rfl rfl (WT.pure 8 rfl (by kernel_rfl) (fun w' => run_move) rfl rfl (WT.pure 9 rfl (by kernel_rfl) (fun w' => run_move) rfl rfl (WT.pure 10 rfl (by kernel_rfl) (fun w' => (run_indexAddr underlying129 sizeOf23 rfl rfl (by omega) (by omega))) rfl rfl ?_)))))))
   refine WT.load1 11 rfl (by kernel_rfl) isAgg23 rfl (RowU.cellZ h (by omega) (by omega)) rfl rfl (WT.eff 12 [false, false] rfl (by kernel_rfl) (by kernel_rfl) (eff_call call157 (less_ok h)) rfl rfl ?_)
   rintro _ w ⟨⟨b41, rfl⟩, h⟩
   refine ⟨trivial, ?_⟩
   refine WT.pure 13 rfl (by kernel_rfl) (fun w' => (run_not rfl)) rfl rfl (WT.pure 14 rfl (by kernel_rfl) (fun w' => (run_pickT rfl)) rfl rfl (WT.done (by kernel_rfl) ?_))
   refine W.condB rfl (fun c9 => ?_) (fun c9 => ?_)
   ·
    refine W.skip (W.block (W.region (WL.val run_move rfl rfl (WL.val (run_add rfl rfl (by omega) (by omega)) rfl rfl (WL.val run_assign rfl rfl (WL.nil ?_))))))
    exact ⟨i + 1, ⟨by (try dsimp only); omega, _, mkE_of ⟨rfl, rfl, rfl, rfl, trivial⟩, h⟩, by show (j0 + 1 - (i + 1)).toNat < (j0 + 1 - i).toNat; omega⟩
   refine W.exit (W.seq (W.block ?_))
   refine W.loop (fun (s : Int) env w => (a ≤ s ∧ s ≤ j0 ∧ (i ≤ s + 1 ∨ s = j0)) ∧ ∃ jk, env = mkE jk [(0, .slice (some ⟨bd, od, none⟩) n cp), (1, .int .i64 a), (9, .int .i64 i), (10, .int .i64 s)] ∧ On W0 (RowU Q (.slice (some ⟨bd, od, none⟩) n cp) n :: L) w) (fun s => (s + 1 - i).toNat) (j0) ?_ ?_
   · exact ⟨by (try dsimp only); omega, _, mkE_of ⟨rfl, rfl, rfl, rfl, trivial⟩, h⟩
   rintro k env w ⟨hI9, jk, rfl, h⟩
   refine W.seq (W.seq ?_)
   refine W.draw Tryz.follows h (fun w h => ?_)
   refine WT.pure 0 rfl (by kernel_rfl) (fun w' => run_move) rfl rfl (WT.pure 1 rfl (by kernel_rfl) (fun w' => run_move) rfl rfl ?_)
   refine WT.dec 2 rfl (by kernel_rfl) (fun w' => (run_leq rfl rfl)) rfl rfl (fun c48 => ?_) (fun c48 => ?_)
   ·
    refine WT.pure 3 rfl (by kernel_rfl) (fun w' => run_move) rfl rfl (WT.pure 4 rfl (by kernel_rfl) (fun w' => run_move) rfl rfl (WT.pure 5 rfl (by kernel_rfl) (fun w' => run_move) rfl rfl (WT.pure 6 rfl (by kernel_rfl) (fun w' => (run_indexAddr underlying129 sizeOf23 rfl rfl (by omega) (by omega))) rfl rfl (WT.load1 7 rfl (by kernel_rfl) isAgg23 rfl (RowU.cellZ h (by omega) (by omega)) rfl rfl (WT.pure 8 rfl (by kernel_rfl) (fun w' => run_move) rfl rfl (WT.pure 9 rfl (by kernel_rfl) (fun w' => run_move) rfl rfl (WT.pure 10 rfl (by kernel_rfl) (fun w' => (run_indexAddr underlying129 sizeOf23 rfl rfl (by omega) (by omega))) rfl rfl ?_)))))))
    refine WT.load1 11 rfl (by kernel_rfl) isAgg23 rfl (RowU.cellZ h (by omega) (by omega)) rfl rfl (WT.eff 12 [false, false] rfl (by kernel_rfl) (by kernel_rfl) (eff_call call157 (less_ok h)) rfl rfl ?_)
    rintro _ w ⟨⟨b58, rfl⟩, h⟩
    refine ⟨trivial, ?_⟩
    refine WT.pure 13 rfl (by kernel_rfl) (fun w' => (run_pickT rfl)) rfl rfl (WT.done (by kernel_rfl) ?_)
    refine W.condB rfl (fun c17 => ?_) (fun c17 => ?_)
    ·
     refine W.skip (W.block (W.region (WL.val run_move rfl rfl (WL.val (run_sub rfl rfl (by omega) (by omega)) rfl rfl (WL.val run_assign rfl rfl (WL.nil ?_))))))
     exact ⟨k - 1, ⟨by (try dsimp only); omega, _, mkE_of ⟨rfl, rfl, rfl, rfl, trivial⟩, h⟩, by show (k - 1 + 1 - i).toNat < (k + 1 - i).toNat; omega⟩
    refine W.exit (W.seq (W.seq (W.region (WL.val run_move rfl rfl (WL.val run_move rfl rfl (WL.val (run_gtr rfl rfl) rfl rfl (WL.nil ?_)))))))
    refine W.condIf rfl (fun c23 => ?_) (fun c23 => ?_)
    ·
     refine W.exit (W.seq (W.region (WL.val run_move rfl rfl (WL.val run_assign rfl rfl (WL.nil (W.ret (bodyQ.r1 (v := .int .i64 _) results158 rfl ?_)))))))
     exact ⟨_, by omega, by omega, rfl, h⟩
    refine W.skip (W.seq ?_)
    refine W.draw Tryz.follows h (fun w h => ?_)
    refine WT.pure 0 rfl (by kernel_rfl) (fun w' => run_move) rfl rfl (WT.pure 1 rfl (by kernel_rfl) (fun w' => run_move) rfl rfl (WT.pure 2 rfl (by kernel_rfl) (fun w' => run_move) rfl rfl (WT.pure 3 rfl (by kernel_rfl) (fun w' => run_move) rfl rfl (WT.pure 4 rfl (by kernel_rfl) (fun w' => run_move) rfl rfl (WT.pure 5 rfl (by kernel_rfl) (fun w' => run_move) rfl rfl (WT.pure 6 rfl (by kernel_rfl) (fun w' => (run_indexAddr underlying129 sizeOf23 rfl rfl (by omega) (by omega))) rfl rfl (WT.load1 7 rfl (by kernel_rfl) isAgg23 rfl (RowU.cellZ h (by omega) (by omega)) rfl rfl ?_)))))))
    refine WT.pure 8 rfl (by kernel_rfl) (fun w' => run_move) rfl rfl (WT.pure 9 rfl (by kernel_rfl) (fun w' => run_move) rfl rfl (WT.pure 10 rfl (by kernel_rfl) (fun w' => (run_indexAddr underlying129 sizeOf23 rfl rfl (by omega) (by omega))) rfl rfl (WT.load1 11 rfl (by kernel_rfl) isAgg23 rfl (RowU.cellZ h (by omega) (by omega)) rfl rfl (WT.pure 12 rfl (by kernel_rfl) (fun w' => (run_indexAddr underlying129 sizeOf23 rfl rfl (by omega) (by omega))) rfl rfl (WT.eff 13 [false, false] rfl (by kernel_rfl) (by kernel_rfl) (eff_setRK (RowU.cellQ (i := i) h (by omega) (by omega)) h sizeOf23 rfl rfl (by omega) (by omega) (RowU.cellQ h (by omega) (by omega))) rfl rfl ?_)))))
    rintro _ w ⟨hqK, h⟩
    refine ⟨trivial, ?_⟩
    refine WT.pure 14 rfl (by kernel_rfl) (fun w' => (run_indexAddr underlying129 sizeOf23 rfl rfl (by omega) (by omega))) rfl rfl (WT.eff 15 [] rfl (by kernel_rfl) (by kernel_rfl) (eff_setR h sizeOf23 rfl rfl (by omega) (by omega) hqK) rfl rfl ?_)
    rintro _ w h
    refine ⟨trivial, ?_⟩
    refine WT.done (by kernel_rfl) (W.seq (W.region (WL.val run_move rfl rfl (WL.val (run_add rfl rfl (by omega) (by omega)) rfl rfl (WL.val run_assign rfl rfl (WL.nil (W.region ?_)))))))
    refine WL.val run_move rfl rfl (WL.val (run_sub rfl rfl (by omega) (by omega)) rfl rfl (WL.val run_assign rfl rfl (WL.nil ?_)))
    exact ⟨(i + 1, k - 1), ⟨by (try dsimp only); omega, _, mkE_of ⟨rfl, rfl, rfl, rfl, trivial⟩, h⟩, by show (k - 1 + 1 - (i + 1)).toNat < (j0 + 1 - i0).toNat; omega⟩
   refine WT.pure 3 rfl (by kernel_rfl) (fun w' => run_move) rfl rfl (WT.skip 4 rfl (by kernel_rfl) rfl rfl (WT.skip 5 rfl (by kernel_rfl) rfl rfl (WT.skip 6 rfl (by kernel_rfl) rfl rfl (WT.skip 7 rfl (by kernel_rfl) rfl rfl (WT.skip 8 rfl (by kernel_rfl) rfl rfl (WT.skip 9 rfl (by kernel_rfl) rfl rfl (WT.skip 10 rfl (by kernel_rfl) rfl rfl ?_)))))))
   refine WT.skip 11 rfl (by kernel_rfl) rfl rfl (WT.skip 12 rfl (by kernel_rfl) rfl rfl (WT.pure 13 rfl (by kernel_rfl) (fun w' => (run_pickF rfl)) rfl rfl (WT.done (by kernel_rfl) (W.condF rfl (W.exit (W.seq (W.seq ?_)))))))
   refine W.region (WL.val run_move rfl rfl (WL.val run_move rfl rfl (WL.val (run_gtr rfl rfl) rfl rfl (WL.nil ?_))))
   refine W.condIf rfl (fun c23 => ?_) (fun c23 => ?_)
   ·
    refine W.exit (W.seq (W.region (WL.val run_move rfl rfl (WL.val run_assign rfl rfl (WL.nil (W.ret (bodyQ.r1 (v := .int .i64 _) results158 rfl ?_)))))))
    exact ⟨_, by omega, by omega, rfl, h⟩
   refine W.skip (W.seq ?_)
   refine W.draw Tryz.follows h (fun w h => ?_)
   refine WT.pure 0 rfl (by kernel_rfl) (fun w' => run_move) rfl rfl (WT.pure 1 rfl (by kernel_rfl) (fun w' => run_move) rfl rfl (WT.pure 2 rfl (by kernel_rfl) (fun w' => run_move) rfl rfl (WT.pure 3 rfl (by kernel_rfl) (fun w' => run_move) rfl rfl (WT.pure 4 rfl (by kernel_rfl) (fun w' => run_move) rfl rfl (WT.pure 5 rfl (by kernel_rfl) (fun w' => run_move) rfl rfl (WT.pure 6 rfl (by kernel_rfl) (fun w' => (run_indexAddr underlying129 sizeOf23 rfl rfl (by omega) (by omega))) rfl rfl (WT.load1 7 rfl (by kernel_rfl) isAgg23 rfl (RowU.cellZ h (by omega) (by omega)) rfl rfl ?_)))))))
   refine WT.pure 8 rfl (by kernel_rfl) (fun w' => run_move) rfl rfl (WT.pure 9 rfl (by kernel_rfl) (fun w' => run_move) rfl rfl (WT.pure 10 rfl (by kernel_rfl) (fun w' => (run_indexAddr underlying129 sizeOf23 rfl rfl (by omega) (by omega))) rfl rfl (WT.load1 11 rfl (by kernel_rfl) isAgg23 rfl (RowU.cellZ h (by omega) (by omega)) rfl rfl (WT.pure 12 rfl (by kernel_rfl) (fun w' => (run_indexAddr underlying129 sizeOf23 rfl rfl (by omega) (by omega))) rfl rfl (WT.eff 13 [false, false] rfl (by kernel_rfl) (by kernel_rfl) (eff_setRK (RowU.cellQ (i := i) h (by omega) (by omega)) h sizeOf23 rfl rfl (by omega) (by omega) (RowU.cellQ h (by omega) (by omega))) rfl rfl ?_)))))
   rintro _ w ⟨hqK, h⟩
   refine ⟨trivial, ?_⟩
   refine WT.pure 14 rfl (by kernel_rfl) (fun w' => (run_indexAddr underlying129 sizeOf23 rfl rfl (by omega) (by omega))) rfl rfl (WT.eff 15 [] rfl (by kernel_rfl) (by kernel_rfl) (eff_setR h sizeOf23 rfl rfl (by omega) (by omega) hqK) rfl rfl ?_)
   rintro _ w h
   refine ⟨trivial, ?_⟩
   refine WT.done (by kernel_rfl) (W.seq (W.region (WL.val run_move rfl rfl (WL.val (run_add rfl rfl (by omega) (by omega)) rfl rfl (WL.val run_assign rfl rfl (WL.nil (W.region ?_)))))))
   refine WL.val run_move rfl rfl (WL.val (run_sub rfl rfl (by omega) (by omega)) rfl rfl (WL.val run_assign rfl rfl (WL.nil ?_)))
   exact ⟨(i + 1, k - 1), ⟨by (try dsimp only); omega, _, mkE_of ⟨rfl, rfl, rfl, rfl, trivial⟩, h⟩, by show (k - 1 + 1 - (i + 1)).toNat < (j0 + 1 - i0).toNat; omega⟩
  refine WT.pure 3 rfl (by kernel_rfl) (fun w' => run_move) rfl rfl (WT.skip 4 rfl (by kernel_rfl) rfl rfl (WT.skip 5 rfl (by kernel_rfl) rfl rfl (WT.skip 6 rfl (by kernel_rfl) rfl rfl (WT.skip 7 rfl (by kernel_rfl) rfl rfl (WT.skip 8 rfl (by kernel_rfl) rfl rfl (WT.skip 9 rfl (by kernel_rfl) rfl rfl (WT.skip 10 rfl (by kernel_rfl) rfl rfl ?_)))))))
  refine WT.skip 11 rfl (by kernel_rfl) rfl rfl (WT.skip 12 rfl (by kernel_rfl) rfl rfl (WT.skip 13 rfl (by kernel_rfl) rfl rfl (WT.pure 14 rfl (by kernel_rfl) (fun w' => (run_pickF rfl)) rfl rfl (WT.done (by kernel_rfl) (W.condF rfl (W.exit (W.seq ?_)))))))
  refine W.block ?_
  refine W.loop (fun (s : Int) env w => (a ≤ s ∧ s ≤ j0 ∧ (i ≤ s + 1 ∨ s = j0)) ∧ ∃ jk, env = mkE jk [(0, .slice (some ⟨bd, od, none⟩) n cp), (1, .int .i64 a), (9, .int .i64 i), (10, .int .i64 s)] ∧ On W0 (RowU Q (.slice (some ⟨bd, od, none⟩) n cp) n :: L) w) (fun s => (s + 1 - i).toNat) (j0) ?_ ?_
  · exact ⟨by (try dsimp only); omega, _, mkE_of ⟨rfl, rfl, rfl, rfl, trivial⟩, h⟩
  rintro k env w ⟨hI9, jk, rfl, h⟩
  refine W.seq (W.seq ?_)
  refine W.draw Tryz.follows h (fun w h => ?_)
  refine WT.pure 0 rfl (by kernel_rfl) (fun w' => run_move) rfl rfl (WT.pure 1 rfl (by kernel_rfl) (fun w' => run_move) rfl rfl ?_)
  refine WT.dec 2 rfl (by kernel_rfl) (fun w' => (run_leq rfl rfl)) rfl rfl (fun c48 => ?_) (fun c48 => ?_)
  ·
   refine WT.pure 3 rfl (by kernel_rfl) (fun w' => run_move) rfl rfl (WT.pure 4 rfl (by kernel_rfl) (fun w' => run_move) rfl rfl (WT.pure 5 rfl (by kernel_rfl) (fun w' => run_move) rfl rfl (WT.pure 6 rfl (by kernel_rfl) (fun w' => (run_indexAddr underlying129 sizeOf23 rfl rfl (by omega) (by omega))) rfl rfl (WT.load1 7 rfl (by kernel_rfl) isAgg23 rfl (RowU.cellZ h (by omega) (by omega)) rfl rfl (WT.pure 8 rfl (by kernel_rfl) (fun w' => run_move) rfl rfl (WT.pure 9 rfl (by kernel_rfl) (fun w' => run_move) rfl rfl (WT.pure 10 rfl (by kernel_rfl) (fun w' => (run_indexAddr underlying129 sizeOf23 rfl rfl (by omega) (by omega))) rfl rfl ?_)))))))
   refine WT.load1 11 rfl (by kernel_rfl) isAgg23 rfl (RowU.cellZ h (by omega) (by omega)) rfl rfl (WT.eff 12 [false, false] rfl (by kernel_rfl) (by kernel_rfl) (eff_call call157 (less_ok h)) rfl rfl ?_)
   rintro _ w ⟨⟨b58, rfl⟩, h⟩
   refine ⟨trivial, ?_⟩
   refine WT.pure 13 rfl (by kernel_rfl) (fun w' => (run_pickT rfl)) rfl rfl (WT.done (by kernel_rfl) ?_)
   refine W.condB rfl (fun c17 => ?_) (fun c17 => ?_)
   ·
    refine W.skip (W.block (W.region (WL.val run_move rfl rfl (WL.val (run_sub rfl rfl (by omega) (by omega)) rfl rfl (WL.val run_assign rfl rfl (WL.nil ?_))))))
    exact ⟨k - 1, ⟨by (try dsimp only); omega, _, mkE_of ⟨rfl, rfl, rfl, rfl, trivial⟩, h⟩, by show (k - 1 + 1 - i).toNat < (k + 1 - i).toNat; omega⟩
   refine W.exit (W.seq (W.seq (W.region (WL.val run_move rfl rfl (WL.val run_move rfl rfl (WL.val (run_gtr rfl rfl) rfl rfl (WL.nil ?_)))))))
   refine W.condIf rfl (fun c23 => ?_) (fun c23 => ?_)
   ·
    refine W.exit (W.seq (W.region (WL.val run_move rfl rfl (WL.val run_assign rfl rfl (WL.nil (W.ret (bodyQ.r1 (v := .int .i64 _) results158 rfl ?_)))))))
    exact ⟨_, by omega, by omega, rfl, h⟩
   refine W.skip (W.seq ?_)
   refine W.draw Tryz.follows h (fun w h => ?_)
   refine WT.pure 0 rfl (by kernel_rfl) (fun w' => run_move) rfl rfl (WT.pure 1 rfl (by kernel_rfl) (fun w' => run_move) rfl rfl (WT.pure 2 rfl (by kernel_rfl) (fun w' => run_move) rfl rfl (WT.pure 3 rfl (by kernel_rfl) (fun w' => run_move) rfl rfl (WT.pure 4 rfl (by kernel_rfl) (fun w' => run_move) rfl rfl (WT.pure 5 rfl (by kernel_rfl) (fun w' => run_move) rfl rfl (WT.pure 6 rfl (by kernel_rfl) (fun w' => (run_indexAddr underlying129 sizeOf23 rfl rfl (by omega) (by omega))) rfl rfl (WT.load1 7 rfl (by kernel_rfl) isAgg23 rfl (RowU.cellZ h (by omega) (by omega)) rfl rfl ?_)))))))
   refine WT.pure 8 rfl (by kernel_rfl) (fun w' => run_move) rfl rfl (WT.pure 9 rfl (by kernel_rfl) (fun w' => run_move) rfl rfl (WT.pure 10 rfl (by kernel_rfl) (fun w' => (run_indexAddr underlying129 sizeOf23 rfl rfl (by omega) (by omega))) rfl rfl (WT.load1 11 rfl (by kernel_rfl) isAgg23 rfl (RowU.cellZ h (by omega) (by omega)) rfl rfl (WT.pure 12 rfl (by kernel_rfl) (fun w' => (run_indexAddr underlying129 sizeOf23 rfl rfl (by omega) (by omega))) rfl rfl (WT.eff 13 [false, false] rfl (by kernel_rfl) (by kernel_rfl) (eff_setRK (RowU.cellQ (i := i) h (by omega) (by omega)) h sizeOf23 rfl rfl (by omega) (by omega) (RowU.cellQ h (by omega) (by omega))) rfl rfl ?_)))))
   rintro _ w ⟨hqK, h⟩
   refine ⟨trivial, ?_⟩
   refine WT.pure 14 rfl (by kernel_rfl) (fun w' => (run_indexAddr underlying129 sizeOf23 rfl rfl (by omega) (by omega))) rfl rfl (WT.eff 15 [] rfl (by kernel_rfl) (by kernel_rfl) (eff_setR h sizeOf23 rfl rfl (by omega) (by omega) hqK) rfl rfl ?_)
   rintro _ w h
   refine ⟨trivial, ?_⟩
   refine WT.done (by kernel_rfl) (W.seq (W.region (WL.val run_move rfl rfl (WL.val (run_add rfl rfl (by omega) (by omega)) rfl rfl (WL.val run_assign rfl rfl (WL.nil (W.region ?_)))))))
   refine WL.val run_move rfl rfl (WL.val (run_sub rfl rfl (by omega) (by omega)) rfl rfl (WL.val run_assign rfl rfl (WL.nil ?_)))
   exact ⟨(i + 1, k - 1), ⟨by (try dsimp only); omega, _, mkE_of ⟨rfl, rfl, rfl, rfl, trivial⟩, h⟩, by show (k - 1 + 1 - (i + 1)).toNat < (j0 + 1 - i0).toNat; omega⟩
  refine WT.pure 3 rfl (by kernel_rfl) (fun w' => run_move) rfl rfl (WT.skip 4 rfl (by kernel_rfl) rfl rfl (WT.skip 5 rfl (by kernel_rfl) rfl rfl (WT.skip 6 rfl (by kernel_rfl) rfl rfl (WT.skip 7 rfl (by kernel_rfl) rfl rfl (WT.skip 8 rfl (by kernel_rfl) rfl rfl (WT.skip 9 rfl (by kernel_rfl) rfl rfl (WT.skip 10 rfl (by kernel_rfl) rfl rfl ?_)))))))
  refine WT.skip 11 rfl (by kernel_rfl) rfl rfl (WT.skip 12 rfl (by kernel_rfl) rfl rfl (WT.pure 13 rfl (by kernel_rfl) (fun w' => (run_pickF rfl)) rfl rfl (WT.done (by kernel_rfl) (W.condF rfl (W.exit (W.seq (W.seq ?_)))))))
  refine W.region (WL.val run_move rfl rfl (WL.val run_move rfl rfl (WL.val (run_gtr rfl rfl) rfl rfl (WL.nil ?_))))
  refine W.condIf rfl (fun c23 => ?_) (fun c23 => ?_)
  ·
   refine W.exit (W.seq (W.region (WL.val run_move rfl rfl (WL.val run_assign rfl rfl (WL.nil (W.ret (bodyQ.r1 (v := .int .i64 _) results158 rfl ?_)))))))
   exact ⟨_, by omega, by omega, rfl, h⟩
  refine W.skip (W.seq ?_)
  refine W.draw Tryz.follows h (fun w h => ?_)
  refine WT.pure 0 rfl (by kernel_rfl) (fun w' => run_move) rfl rfl (WT.pure 1 rfl (by kernel_rfl) (fun w' => run_move) rfl rfl (WT.pure 2 rfl (by kernel_rfl) (fun w' => run_move) rfl rfl (WT.pure 3 rfl (by kernel_rfl) (fun w' => run_move) rfl rfl (WT.pure 4 rfl (by kernel_rfl) (fun w' => run_move) rfl rfl (WT.pure 5 rfl (by kernel_rfl) (fun w' => run_move) rfl rfl (WT.pure 6 rfl (by kernel_rfl) (fun w' => (run_indexAddr underlying129 sizeOf23 rfl rfl (by omega) (by omega))) rfl rfl (WT.load1 7 rfl (by kernel_rfl) isAgg23 rfl (RowU.cellZ h (by omega) (by omega)) rfl rfl ?_)))))))
  refine WT.pure 8 rfl (by kernel_rfl) (fun w' => run_move) rfl rfl (WT.pure 9 rfl (by kernel_rfl) (fun w' => run_move) rfl rfl (WT.pure 10 rfl (by kernel_rfl) (fun w' => (run_indexAddr underlying129 sizeOf23 rfl rfl (by omega) (by omega))) rfl rfl (WT.load1 11 rfl (by kernel_rfl) isAgg23 rfl (RowU.cellZ h (by omega) (by omega)) rfl rfl (WT.pure 12 rfl (by kernel_rfl) (fun w' => (run_indexAddr underlying129 sizeOf23 rfl rfl (by omega) (by omega))) rfl rfl (WT.eff 13 [false, false] rfl (by kernel_rfl) (by kernel_rfl) (eff_setRK (RowU.cellQ (i := i) h (by omega) (by omega)) h sizeOf23 rfl rfl (by omega) (by omega) (RowU.cellQ h (by omega) (by omega))) rfl rfl ?_)))))
  rintro _ w ⟨hqK, h⟩
  refine ⟨trivial, ?_⟩
  refine WT.pure 14 rfl (by kernel_rfl) (fun w' => (run_indexAddr underlying129 sizeOf23 rfl rfl (by omega) (by omega))) rfl rfl (WT.eff 15 [] rfl (by kernel_rfl) (by kernel_rfl) (eff_setR h sizeOf23 rfl rfl (by omega) (by omega) hqK) rfl rfl ?_)
  rintro _ w h
  refine ⟨trivial, ?_⟩
  refine WT.done (by kernel_rfl) (W.seq (W.region (WL.val run_move rfl rfl (WL.val (run_add rfl rfl (by omega) (by omega)) rfl rfl (WL.val run_assign rfl rfl (WL.nil (W.region ?_)))))))
  refine WL.val run_move rfl rfl (WL.val (run_sub rfl rfl (by omega) (by omega)) rfl rfl (WL.val run_assign rfl rfl (WL.nil ?_)))
  exact ⟨(i + 1, k - 1), ⟨by (try dsimp only); omega, _, mkE_of ⟨rfl, rfl, rfl, rfl, trivial⟩, h⟩, by show (k - 1 + 1 - (i + 1)).toNat < (j0 + 1 - i0).toNat; omega⟩
theorem qpart_ok {bd od n cp : Nat} {a b p : Int} (h0 : 0 ≤ a) (h1 : a ≤ p) (h3 : p < b) (h2 : b ≤ (n : Int)) (hn : n < 65536) (h : On W0 (RowU Q (.slice (some ⟨bd, od, none⟩) n cp) n :: L) w) : Calls Tryz.prog 159 #[.slice (some ⟨bd, od, none⟩) n cp, .int .i64 a, .int .i64 b, .int .i64 p] w (Ret fun v w' => ∃ (m : Int) (ap : Bool), a ≤ m ∧ m < b ∧ v = .tuple #[.int .i64 m, .bool ap] ∧ On W0 (RowU Q (.slice (some ⟨bd, od, none⟩) n cp) n :: L) w') := by
  refine enter func159 rfl ntmps159 rfl ?_
  have hmx := maxLen_eq
  refine W.seq (W.region (WL.val run_assign rfl rfl (WL.val run_assign rfl rfl (WL.nil (W.seq ?_)))))
  refine W.draw Tryz.follows h (fun w h => ?_)
  refine WT.pure 0 rfl (by kernel_rfl) (fun w' => run_move) rfl rfl (WT.pure 1 rfl (by kernel_rfl) (fun w' => run_move) rfl rfl (WT.pure 2 rfl (by kernel_rfl) (fun w' => run_move) rfl rfl (WT.pure 3 rfl (by kernel_rfl) (fun w' => run_move) rfl rfl (WT.pure 4 rfl (by kernel_rfl) (fun w' => run_move) rfl rfl (WT.pure 5 rfl (by kernel_rfl) (fun w' => run_move) rfl rfl (WT.pure 6 rfl (by kernel_rfl) (fun w' => (run_indexAddr underlying129 sizeOf23 rfl rfl (by omega) (by omega))) rfl rfl (WT.load1 7 rfl (by kernel_rfl) isAgg23 rfl (RowU.cellZ h (by omega) (by omega)) rfl rfl ?_)))))))
  refine WT.pure 8 rfl (by kernel_rfl) (fun w' => run_move) rfl rfl (WT.pure 9 rfl (by kernel_rfl) (fun w' => run_move) rfl rfl (WT.pure 10 rfl (by kernel_rfl) (fun w' => (run_indexAddr underlying129 sizeOf23 rfl rfl (by omega) (by omega))) rfl rfl (WT.load1 11 rfl (by kernel_rfl) isAgg23 rfl (RowU.cellZ h (by omega) (by omega)) rfl rfl (WT.pure 12 rfl (by kernel_rfl) (fun w' => (run_indexAddr underlying129 sizeOf23 rfl rfl (by omega) (by omega))) rfl rfl (WT.eff 13 [false, false] rfl (by kernel_rfl) (by kernel_rfl) (eff_setRK (RowU.cellQ (i := a) h (by omega) (by omega)) h sizeOf23 rfl rfl (by omega) (by omega) (RowU.cellQ h (by omega) (by omega))) rfl rfl ?_)))))
  rintro _ w ⟨hqK, h⟩
  refine ⟨trivial, ?_⟩
  refine WT.pure 14 rfl (by kernel_rfl) (fun w' => (run_indexAddr underlying129 sizeOf23 rfl rfl (by omega) (by omega))) rfl rfl (WT.eff 15 [] rfl (by kernel_rfl) (by kernel_rfl) (eff_setR h sizeOf23 rfl rfl (by omega) (by omega) hqK) rfl rfl ?_)
  rintro _ w h
  refine ⟨trivial, ?_⟩
  refine WT.done (by kernel_rfl) (W.seq (W.region (WL.val run_move rfl rfl (WL.val (run_add rfl rfl (by omega) (by omega)) rfl rfl (WL.val run_move rfl rfl (WL.val (run_sub rfl rfl (by omega) (by omega)) rfl rfl (WL.val run_assign rfl rfl ?_)))))))
  refine WL.val run_assign rfl rfl (WL.nil (W.seq (W.block ?_)))
  refine W.loop (fun (s : Int) env w => ((a + 1) ≤ s ∧ (s ≤ (b - 1) + 1 ∨ s = (a + 1))) ∧ ∃ jk, env = mkE jk [(0, .slice (some ⟨bd, od, none⟩) n cp), (1, .int .i64 a), (10, .int .i64 s), (11, .int .i64 (b - 1))] ∧ On W0 (RowU Q (.slice (some ⟨bd, od, none⟩) n cp) n :: L) w) (fun s => ((b - 1) + 1 - s).toNat) ((a + 1)) ?_ ?_
  · exact ⟨by (try dsimp only); omega, _, mkE_of ⟨rfl, rfl, rfl, rfl, trivial⟩, h⟩
  rintro i env w ⟨hI10, jk, rfl, h⟩
  refine W.seq (W.seq ?_)
  refine W.draw Tryz.follows h (fun w h => ?_)
  refine WT.pure 0 rfl (by kernel_rfl) (fun w' => run_move) rfl rfl (WT.pure 1 rfl (by kernel_rfl) (fun w' => run_move) rfl rfl ?_)
  refine WT.dec 2 rfl (by kernel_rfl) (fun w' => (run_leq rfl rfl)) rfl rfl (fun c32 => ?_) (fun c32 => ?_)
  ·
   refine WT.pure 3 rfl (by kernel_rfl) (fun w' => run_move) rfl rfl (WT.pure 4 rfl (by kernel_rfl) (fun w' => run_move) rfl rfl (WT.pure 5 rfl (by kernel_rfl) (fun w' => run_move) rfl rfl (WT.pure 6 rfl (by kernel_rfl) (fun w' => (run_indexAddr underlying129 sizeOf23 rfl rfl (by omega) (by omega))) rfl rfl (WT.load1 7 rfl (by kernel_rfl) isAgg23 rfl (RowU.cellZ h (by omega) (by omega)) rfl rfl (WT.pure 8 rfl (by kernel_rfl) (fun w' => run_move) rfl rfl (WT.pure 9 rfl (by kernel_rfl) (fun w' => run_move) rfl rfl (WT.pure 10 rfl (by kernel_rfl) (fun w' => (run_indexAddr underlying129 sizeOf23 rfl rfl (by omega) (by omega))) rfl rfl ?_)))))))
   refine WT.load1 11 rfl (by kernel_rfl) isAgg23 rfl (RowU.cellZ h (by omega) (by omega)) rfl rfl (WT.eff 12 [false, false] rfl (by kernel_rfl) (by kernel_rfl) (eff_call call157 (less_ok h)) rfl rfl ?_)
   rintro _ w ⟨⟨b42, rfl⟩, h⟩
   refine ⟨trivial, ?_⟩
   refine WT.pure 13 rfl (by kernel_rfl) (fun w' => (run_pickT rfl)) rfl rfl (WT.done (by kernel_rfl) ?_)
   refine W.condB rfl (fun c6 => ?_) (fun c6 => ?_)
   ·
    refine W.skip (W.block (W.region (WL.val run_move rfl rfl (WL.val (run_add rfl rfl (by omega) (by omega)) rfl rfl (WL.val run_assign rfl rfl (WL.nil ?_))))))
    exact ⟨i + 1, ⟨by (try dsimp only); omega, _, mkE_of ⟨rfl, rfl, rfl, rfl, trivial⟩, h⟩, by show ((b - 1) + 1 - (i + 1)).toNat < ((b - 1) + 1 - i).toNat; omega⟩
   refine W.exit (W.seq (W.block ?_))
   refine W.loop (fun (s : Int) env w => (a ≤ s ∧ s ≤ (b - 1) ∧ (i ≤ s + 1 ∨ s = (b - 1))) ∧ ∃ jk, env = mkE jk [(0, .slice (some ⟨bd, od, none⟩) n cp), (1, .int .i64 a), (10, .int .i64 i), (11, .int .i64 s)] ∧ On W0 (RowU Q (.slice (some ⟨bd, od, none⟩) n cp) n :: L) w) (fun s => (s + 1 - i).toNat) ((b - 1)) ?_ ?_
   · exact ⟨by (try dsimp only); omega, _, mkE_of ⟨rfl, rfl, rfl, rfl, trivial⟩, h⟩
   rintro k env w ⟨hI11, jk, rfl, h⟩
   refine W.seq (W.seq ?_)
   refine W.draw Tryz.follows h (fun w h => ?_)
   refine WT.pure 0 rfl (by kernel_rfl) (fun w' => run_move) rfl rfl (WT.pure 1 rfl (by kernel_rfl) (fun w' => run_move) rfl rfl ?_)
   refine WT.dec 2 rfl (by kernel_rfl) (fun w' => (run_leq rfl rfl)) rfl rfl (fun c48 => ?_) (fun c48 => ?_)
   ·
    refine WT.pure 3 rfl (by kernel_rfl) (fun w' => run_move) rfl rfl (WT.pure 4 rfl (by kernel_rfl) (fun w' => run_move) rfl rfl (WT.pure 5 rfl (by kernel_rfl) (fun w' => run_move) rfl rfl (WT.pure 6 rfl (by kernel_rfl) (fun w' => (run_indexAddr underlying129 sizeOf23 rfl rfl (by omega) (by omega))) rfl rfl (WT.load1 7 rfl (by kernel_rfl) isAgg23 rfl (RowU.cellZ h (by omega) (by omega)) rfl rfl (WT.pure 8 rfl (by kernel_rfl) (fun w' => run_move) rfl rfl (WT.pure 9 rfl (by kernel_rfl) (fun w' => run_move) rfl rfl (WT.pure 10 rfl (by kernel_rfl) (fun w' => (run_indexAddr underlying129 sizeOf23 rfl rfl (by omega) (by omega))) rfl rfl ?_)))))))
    refine WT.load1 11 rfl (by kernel_rfl) isAgg23 rfl (RowU.cellZ h (by omega) (by omega)) rfl rfl (WT.eff 12 [false, false] rfl (by kernel_rfl) (by kernel_rfl) (eff_call call157 (less_ok h)) rfl rfl ?_)
    rintro _ w ⟨⟨b58, rfl⟩, h⟩
    refine ⟨trivial, ?_⟩
    refine WT.pure 13 rfl (by kernel_rfl) (fun w' => (run_not rfl)) rfl rfl (WT.pure 14 rfl (by kernel_rfl) (fun w' => (run_pickT rfl)) rfl rfl (WT.done (by kernel_rfl) ?_))
    refine W.condB rfl (fun c14 => ?_) (fun c14 => ?_)
    ·
     refine W.skip (W.block (W.region (WL.val run_move rfl rfl (WL.val (run_sub rfl rfl (by omega) (by omega)) rfl rfl (WL.val run_assign rfl rfl (WL.nil ?_))))))
     exact ⟨k - 1, ⟨by (try dsimp only); omega, _, mkE_of ⟨rfl, rfl, rfl, rfl, trivial⟩, h⟩, by show (k - 1 + 1 - i).toNat < (k + 1 - i).toNat; omega⟩
    refine W.exit (W.seq (W.seq (W.region (WL.val run_move rfl rfl (WL.val run_move rfl rfl (WL.val (run_gtr rfl rfl) rfl rfl (WL.nil ?_)))))))
    refine W.condIf rfl (fun c20 => ?_) (fun c20 => ?_)
    ·
     refine W.seq ?_
     refine W.draw Tryz.follows h (fun w h => ?_)
     refine WT.pure 0 rfl (by kernel_rfl) (fun w' => run_move) rfl rfl (WT.pure 1 rfl (by kernel_rfl) (fun w' => run_move) rfl rfl (WT.pure 2 rfl (by kernel_rfl) (fun w' => run_move) rfl rfl (WT.pure 3 rfl (by kernel_rfl) (fun w' => run_move) rfl rfl (WT.pure 4 rfl (by kernel_rfl) (fun w' => run_move) rfl rfl (WT.pure 5 rfl (by kernel_rfl) (fun w' => run_move) rfl rfl (WT.pure 6 rfl (by kernel_rfl) (fun w' => (run_indexAddr underlying129 sizeOf23 rfl rfl (by omega) (by omega))) rfl rfl (WT.load1 7 rfl (by kernel_rfl) isAgg23 rfl (RowU.cellZ h (by omega) (by omega)) rfl rfl ?_)))))))
     refine WT.pure 8 rfl (by kernel_rfl) (fun w' => run_move) rfl rfl (WT.pure 9 rfl (by kernel_rfl) (fun w' => run_move) rfl rfl (WT.pure 10 rfl (by kernel_rfl) (fun w' => (run_indexAddr underlying129 sizeOf23 rfl rfl (by omega) (by omega))) rfl rfl (WT.load1 11 rfl (by kernel_rfl) isAgg23 rfl (RowU.cellZ h (by omega) (by omega)) rfl rfl (WT.pure 12 rfl (by kernel_rfl) (fun w' => (run_indexAddr underlying129 sizeOf23 rfl rfl (by omega) (by omega))) rfl rfl (WT.eff 13 [false, false] rfl (by kernel_rfl) (by kernel_rfl) (eff_setRK (RowU.cellQ (i := k) h (by omega) (by omega)) h sizeOf23 rfl rfl (by omega) (by omega) (RowU.cellQ h (by omega) (by omega))) rfl rfl ?_)))))
     rintro _ w ⟨hqK, h⟩
     refine ⟨trivial, ?_⟩
     refine WT.pure 14 rfl (by kernel_rfl) (fun w' => (run_indexAddr underlying129 sizeOf23 rfl rfl (by omega) (by omega))) rfl rfl (WT.eff 15 [] rfl (by kernel_rfl) (by kernel_rfl) (eff_setR h sizeOf23 rfl rfl (by omega) (by omega) hqK) rfl rfl ?_)
     rintro _ w h
     refine ⟨trivial, ?_⟩
     refine WT.done (by kernel_rfl) (W.seq (W.region (WL.val run_move rfl rfl (WL.val run_assign rfl rfl (WL.val run_assign rfl rfl (WL.nil (W.ret ?_)))))))
     refine bodyQ.r2 (v1 := .int .i64 _) (v2 := .bool _) results159 rfl rfl ?_
     exact ⟨_, _, by omega, by omega, rfl, h⟩
    refine W.skip (W.seq ?_)
    refine W.draw Tryz.follows h (fun w h => ?_)
    refine WT.pure 0 rfl (by kernel_rfl) (fun w' => run_move) rfl rfl (WT.pure 1 rfl (by kernel_rfl) (fun w' => run_move) rfl rfl (WT.pure 2 rfl (by kernel_rfl) (fun w' => run_move) rfl rfl (WT.pure 3 rfl (by kernel_rfl) (fun w' => run_move) rfl rfl (WT.pure 4 rfl (by kernel_rfl) (fun w' => run_move) rfl rfl (WT.pure 5 rfl (by kernel_rfl) (fun w' => run_move) rfl rfl (WT.pure 6 rfl (by kernel_rfl) (fun w' => (run_indexAddr underlying129 sizeOf23 rfl rfl (by omega) (by omega))) rfl rfl (WT.load1 7 rfl (by kernel_rfl) isAgg23 rfl (RowU.cellZ h (by omega) (by omega)) rfl rfl ?_)))))))
    refine WT.pure 8 rfl (by kernel_rfl) (fun w' => run_move) rfl rfl (WT.pure 9 rfl (by kernel_rfl) (fun w' => run_move) rfl rfl (WT.pure 10 rfl (by kernel_rfl) (fun w' => (run_indexAddr underlying129 sizeOf23 rfl rfl (by omega) (by omega))) rfl rfl (WT.load1 11 rfl (by kernel_rfl) isAgg23 rfl (RowU.cellZ h (by omega) (by omega)) rfl rfl (WT.pure 12 rfl (by kernel_rfl) (fun w' => (run_indexAddr underlying129 sizeOf23 rfl rfl (by omega) (by omega))) rfl rfl (WT.eff 13 [false, false] rfl (by kernel_rfl) (by kernel_rfl) (eff_setRK (RowU.cellQ (i := i) h (by omega) (by omega)) h sizeOf23 rfl rfl (by omega) (by omega) (RowU.cellQ h (by omega) (by omega))) rfl rfl ?_)))))
    rintro _ w ⟨hqK, h⟩
    refine ⟨trivial, ?_⟩
    refine WT.pure 14 rfl (by kernel_rfl) (fun w' => (run_indexAddr underlying129 sizeOf23 rfl rfl (by omega) (by omega))) rfl rfl (WT.eff 15 [] rfl (by kernel_rfl) (by kernel_rfl) (eff_setR h sizeOf23 rfl rfl (by omega) (by omega) hqK) rfl rfl ?_)
    rintro _ w h
    refine ⟨trivial, ?_⟩
    refine WT.done (by kernel_rfl) (W.seq (W.region (WL.val run_move rfl rfl (WL.val (run_add rfl rfl (by omega) (by omega)) rfl rfl (WL.val run_assign rfl rfl (WL.nil (W.seq ?_)))))))
    refine W.region (WL.val run_move rfl rfl (WL.val (run_sub rfl rfl (by omega) (by omega)) rfl rfl (WL.val run_assign rfl rfl (WL.nil (W.seq (W.block ?_))))))
    refine W.loop (fun (s : Int × Int) env w => (a + 1 ≤ s.1 ∧ s.1 ≤ b ∧ s.1 ≤ s.2 + 2 ∧ a ≤ s.2 ∧ s.2 < b) ∧ ∃ jk, env = mkE jk [(0, .slice (some ⟨bd, od, none⟩) n cp), (1, .int .i64 a), (10, .int .i64 s.1), (11, .int .i64 s.2)] ∧ On W0 (RowU Q (.slice (some ⟨bd, od, none⟩) n cp) n :: L) w) (fun s => (s.2 + 1 - s.1).toNat) ((i + 1, k - 1)) ?_ ?_
    · exact ⟨by (try dsimp only); omega, _, mkE_of ⟨rfl, rfl, rfl, rfl, trivial⟩, h⟩
    rintro ⟨i0, j0⟩ env w ⟨hI12, jk, rfl, h⟩
    try dsimp only at hI12
    refine W.block (W.seq (W.block ?_))
    refine W.loop (fun (s : Int) env w => (i0 ≤ s ∧ (s ≤ j0 + 1 ∨ s = i0)) ∧ ∃ jk, env = mkE jk [(0, .slice (some ⟨bd, od, none⟩) n cp), (1, .int .i64 a), (10, .int .i64 s), (11, .int .i64 j0)] ∧ On W0 (RowU Q (.slice (some ⟨bd, od, none⟩) n cp) n :: L) w) (fun s => (j0 + 1 - s).toNat) (i0) ?_ ?_
    · exact ⟨by (try dsimp only); omega, _, mkE_of ⟨rfl, rfl, rfl, rfl, trivial⟩, h⟩
    rintro i env w ⟨hI13, jk, rfl, h⟩
    refine W.seq (W.seq ?_)
    refine W.draw Tryz.follows h (fun w h => ?_)
    refine WT.pure 0 rfl (by kernel_rfl) (fun w' => run_move) rfl rfl (WT.pure 1 rfl (by kernel_rfl) (fun w' => run_move) rfl rfl ?_)
    refine WT.dec 2 rfl (by kernel_rfl) (fun w' => (run_leq rfl rfl)) rfl rfl (fun c101 => ?_) (fun c101 => ?_)
    ·
     refine WT.pure 3 rfl (by kernel_rfl) (fun w' => run_move) rfl rfl (WT.pure 4 rfl (by kernel_rfl) (fun w' => run_move) rfl rfl (WT.pure 5 rfl (by kernel_rfl) (fun w' => run_move) rfl rfl (WT.pure 6 rfl (by kernel_rfl) (fun w' => (run_indexAddr underlying129 sizeOf23 rfl rfl (by omega) (by omega))) rfl rfl (WT.load1 7 rfl (by kernel_rfl) isAgg23 rfl (RowU.cellZ h (by omega) (by omega)) rfl rfl (WT.pure 8 rfl (by kernel_rfl) (fun w' => run_move) rfl rfl (WT.pure 9 rfl (by kernel_rfl) (fun w' => run_move) rfl rfl (WT.pure 10 rfl (by kernel_rfl) (fun w' => (run_indexAddr underlying129 sizeOf23 rfl rfl (by omega) (by omega))) rfl rfl ?_)))))))
     refine WT.load1 11 rfl (by kernel_rfl) isAgg23 rfl (RowU.cellZ h (by omega) (by omega)) rfl rfl (WT.eff 12 [false, false] rfl (by kernel_rfl) (by kernel_rfl) (eff_call call157 (less_ok h)) rfl rfl ?_)
     rintro _ w ⟨⟨b111, rfl⟩, h⟩
     refine ⟨trivial, ?_⟩
     refine WT.pure 13 rfl (by kernel_rfl) (fun w' => (run_pickT rfl)) rfl rfl (WT.done (by kernel_rfl) ?_)
     refine W.condB rfl (fun c34 => ?_) (fun c34 => ?_)
     ·
      refine W.skip (W.block (W.region (WL.val run_move rfl rfl (WL.val (run_add rfl rfl (by omega) (by omega)) rfl rfl (WL.val run_assign rfl rfl (WL.nil ?_))))))
      exact ⟨i + 1, ⟨by (try dsimp only); omega, _, mkE_of ⟨rfl, rfl, rfl, rfl, trivial⟩, h⟩, by show (j0 + 1 - (i + 1)).toNat < (j0 + 1 - i).toNat; omega⟩
     refine W.exit (W.seq (W.block ?_))
     refine W.loop (fun (s : Int) env w => (a ≤ s ∧ s ≤ j0 ∧ (i ≤ s + 1 ∨ s = j0)) ∧ ∃ jk, env = mkE jk [(0, .slice (some ⟨bd, od, none⟩) n cp), (1, .int .i64 a), (10, .int .i64 i), (11, .int .i64 s)] ∧ On W0 (RowU Q (.slice (some ⟨bd, od, none⟩) n cp) n :: L) w) (fun s => (s + 1 - i).toNat) (j0) ?_ ?_
     · exact ⟨by (try dsimp only); omega, _, mkE_of ⟨rfl, rfl, rfl, rfl, trivial⟩, h⟩
     rintro k env w ⟨hI14, jk, rfl, h⟩
     refine W.seq (W.seq ?_)
     refine W.draw Tryz.follows h (fun w h => ?_)
     refine WT.pure 0 rfl (by kernel_rfl) (fun w' => run_move) rfl rfl (WT.pure 1 rfl (by kernel_rfl) (fun w' => run_move) rfl rfl ?_)
     refine WT.dec 2 rfl (by kernel_rfl) (fun w' => (run_leq rfl rfl)) rfl rfl (fun c117 => ?_) (fun c117 => ?_)
     ·
      refine WT.pure 3 rfl (by kernel_rfl) (fun w' => run_move) rfl rfl (WT.pure 4 rfl (by kernel_rfl) (fun w' => run_move) rfl rfl (WT.pure 5 rfl (by kernel_rfl) (fun w' => run_move) rfl rfl (WT.pure 6 rfl (by kernel_rfl) (fun w' => (run_indexAddr underlying129 sizeOf23 rfl rfl (by omega) (by omega))) rfl rfl (WT.load1 7 rfl (by kernel_rfl) isAgg23 rfl (RowU.cellZ h (by omega) (by omega)) rfl rfl (WT.pure 8 rfl (by kernel_rfl) (fun w' => run_move) rfl rfl (WT.pure 9 rfl (by kernel_rfl) (fun w' => run_move) rfl rfl (WT.pure 10 rfl (by kernel_rfl) (fun w' => (run_indexAddr underlying129 sizeOf23 rfl rfl (by omega) (by omega))) rfl rfl ?_)))))))
      refine WT.load1 11 rfl (by kernel_rfl) isAgg23 rfl (RowU.cellZ h (by omega) (by omega)) rfl rfl (WT.eff 12 [false, false] rfl (by kernel_rfl) (by kernel_rfl) (eff_call call157 (less_ok h)) rfl rfl ?_)
      rintro _ w ⟨⟨b127, rfl⟩, h⟩
      refine ⟨trivial, ?_⟩
      refine WT.pure 13 rfl (by kernel_rfl) (fun w' => (run_not rfl)) rfl rfl (WT.pure 14 rfl (by kernel_rfl) (fun w' => (run_pickT rfl)) rfl rfl (WT.done (by kernel_rfl) ?_))
      refine W.condB rfl (fun c42 => ?_) (fun c42 => ?_)
      ·
       refine W.skip (W.block (W.region (WL.val run_move rfl rfl (WL.val (run_sub rfl rfl (by omega) (by omega)) rfl rfl (WL.val run_assign rfl rfl (WL.nil ?_))))))
       exact ⟨k - 1, ⟨by (try dsimp only); omega, _, mkE_of ⟨rfl, rfl, rfl, rfl, trivial⟩, h⟩, by show (k - 1 + 1 - i).toNat < (k + 1 - i).toNat; omega⟩
      refine W.exit (W.seq (W.seq (W.region (WL.val run_move rfl rfl (WL.val run_move rfl rfl (WL.val (run_gtr rfl rfl) rfl rfl (WL.nil ?_)))))))
      refine W.condIf rfl (fun c48 => ?_) (fun c48 => ?_)
      ·
       refine W.exit (W.seq ?_)
       refine W.draw Tryz.follows h (fun w h => ?_)
       refine WT.pure 0 rfl (by kernel_rfl) (fun w' => run_move) rfl rfl (WT.pure 1 rfl (by kernel_rfl) (fun w' => run_move) rfl rfl (WT.pure 2 rfl (by kernel_rfl) (fun w' => run_move) rfl rfl (WT.pure 3 rfl (by kernel_rfl) (fun w' => run_move) rfl rfl (WT.pure 4 rfl (by kernel_rfl) (fun w' => run_move) rfl rfl (WT.pure 5 rfl (by kernel_rfl) (fun w' => run_move) rfl rfl (WT.pure 6 rfl (by kernel_rfl) (fun w' => (run_indexAddr underlying129 sizeOf23 rfl rfl (by omega) (by omega))) rfl rfl (WT.load1 7 rfl (by kernel_rfl) isAgg23 rfl (RowU.cellZ h (by omega) (by omega)) rfl rfl ?_)))))))
       refine WT.pure 8 rfl (by kernel_rfl) (fun w' => run_move) rfl rfl (WT.pure 9 rfl (by kernel_rfl) (fun w' => run_move) rfl rfl (WT.pure 10 rfl (by kernel_rfl) (fun w' => (run_indexAddr underlying129 sizeOf23 rfl rfl (by omega) (by omega))) rfl rfl (WT.load1 11 rfl (by kernel_rfl) isAgg23 rfl (RowU.cellZ h (by omega) (by omega)) rfl rfl (WT.pure 12 rfl (by kernel_rfl) (fun w' => (run_indexAddr underlying129 sizeOf23 rfl rfl (by omega) (by omega))) rfl rfl (WT.eff 13 [false, false] rfl (by kernel_rfl) (by kernel_rfl) (eff_setRK (RowU.cellQ (i := k) h (by omega) (by omega)) h sizeOf23 rfl rfl (by omega) (by omega) (RowU.cellQ h (by omega) (by omega))) rfl rfl ?_)))))
       rintro _ w ⟨hqK, h⟩
       refine ⟨trivial, ?_⟩
       refine WT.pure 14 rfl (by kernel_rfl) (fun w' => (run_indexAddr underlying129 sizeOf23 rfl rfl (by omega) (by omega))) rfl rfl (WT.eff 15 [] rfl (by kernel_rfl) (by kernel_rfl) (eff_setR h sizeOf23 rfl rfl (by omega) (by omega) hqK) rfl rfl ?_)
       rintro _ w h
       refine ⟨trivial, ?_⟩
       refine WT.done (by kernel_rfl) (W.seq (W.region (WL.val run_move rfl rfl (WL.val run_assign rfl rfl (WL.val run_assign rfl rfl (WL.nil (W.ret ?_)))))))
       refine bodyQ.r2 (v1 := .int .i64 _) (v2 := .bool _) results159 rfl rfl ?_
       exact ⟨_, _, by omega, by omega, rfl, h⟩
      refine W.skip (W.seq ?_)
      refine W.draw Tryz.follows h (fun w h => ?_)
      refine WT.pure 0 rfl (by kernel_rfl) (fun w' => run_move) rfl rfl (WT.pure 1 rfl (by kernel_rfl) (fun w' => run_move) rfl rfl (WT.pure 2 rfl (by kernel_rfl) (fun w' => run_move) rfl rfl (WT.pure 3 rfl (by kernel_rfl) (fun w' => run_move) rfl rfl (WT.pure 4 rfl (by kernel_rfl) (fun w' => run_move) rfl rfl (WT.pure 5 rfl (by kernel_rfl) (fun w' => run_move) rfl rfl (WT.pure 6 rfl (by kernel_rfl) (fun w' => (run_indexAddr underlying129 sizeOf23 rfl rfl (by omega) (by omega))) rfl rfl (WT.load1 7 rfl (by kernel_rfl) isAgg23 rfl (RowU.cellZ h (by omega) (by omega)) rfl rfl ?_)))))))
      refine WT.pure 8 rfl (by kernel_rfl) (fun w' => run_move) rfl rfl (WT.pure 9 rfl (by kernel_rfl) (fun w' => run_move) rfl rfl (WT.pure 10 rfl (by kernel_rfl) (fun w' => (run_indexAddr underlying129 sizeOf23 rfl rfl (by omega) (by omega))) rfl rfl (WT.load1 11 rfl (by kernel_rfl) isAgg23 rfl (RowU.cellZ h (by omega) (by omega)) rfl rfl (WT.pure 12 rfl (by kernel_rfl) (fun w' => (run_indexAddr underlying129 sizeOf23 rfl rfl (by omega) (by omega))) rfl rfl (WT.eff 13 [false, false] rfl (by kernel_rfl) (by kernel_rfl) (eff_setRK (RowU.cellQ (i := i) h (by omega) (by omega)) h sizeOf23 rfl rfl (by omega) (by omega) (RowU.cellQ h (by omega) (by omega))) rfl rfl ?_)))))
      rintro _ w ⟨hqK, h⟩
      refine ⟨trivial, ?_⟩
      refine WT.pure 14 rfl (by kernel_rfl) (fun w' => (run_indexAddr underlying129 sizeOf23 rfl rfl (by omega) (by omega))) rfl rfl (WT.eff 15 [] rfl (by kernel_rfl) (by kernel_rfl) (eff_setR h sizeOf23 rfl rfl (by omega) (by omega) hqK) rfl rfl ?_)
      rintro _ w h
      refine ⟨trivial, ?_⟩
      refine WT.done (by kernel_rfl) (W.seq (W.region (WL.val run_move rfl rfl (WL.val (run_add rfl rfl (by omega) (by omega)) rfl rfl (WL.val run_assign rfl rfl (WL.nil (W.region ?_)))))))
      refine WL.val run_move rfl rfl (WL.val (run_sub rfl rfl (by omega) (by omega)) rfl rfl (WL.val run_assign rfl rfl (WL.nil ?_)))
      exact ⟨(i + 1, k - 1), ⟨by (try dsimp only); omega, _, mkE_of ⟨rfl, rfl, rfl, rfl, trivial⟩, h⟩, by show (k - 1 + 1 - (i + 1)).toNat < (j0 + 1 - i0).toNat; omega⟩
     refine WT.pure 3 rfl (by kernel_rfl) (fun w' => run_move) rfl rfl (WT.skip 4 rfl (by kernel_rfl) rfl rfl (WT.skip 5 rfl (by kernel_rfl) rfl rfl (WT.skip 6 rfl (by kernel_rfl) rfl rfl (WT.skip 7 rfl (by kernel_rfl) rfl rfl (WT.skip 8 rfl (by kernel_rfl) rfl rfl (WT.skip 9 rfl (by kernel_rfl) rfl rfl (WT.skip 10 rfl (by kernel_rfl) rfl rfl ?_)))))))
     refine WT.skip 11 rfl (by kernel_rfl) rfl rfl (WT.skip 12 rfl (by kernel_rfl) rfl rfl (WT.skip 13 rfl (by kernel_rfl) rfl rfl (WT.pure 14 rfl (by kernel_rfl) (fun w' => (run_pickF rfl)) rfl rfl (WT.done (by kernel_rfl) (W.condF rfl (W.exit (W.seq ?_)))))))
     refine W.seq (W.region (WL.val run_move rfl rfl (WL.val run_move rfl rfl (WL.val (run_gtr rfl rfl) rfl rfl (WL.nil ?_)))))
     refine W.condIf rfl (fun c48 => ?_) (fun c48 => ?_)
     ·
      refine W.exit (W.seq ?_)
      refine W.draw Tryz.follows h (fun w h => ?_)
      refine WT.pure 0 rfl (by kernel_rfl) (fun w' => run_move) rfl rfl (WT.pure 1 rfl (by kernel_rfl) (fun w' => run_move) rfl rfl (WT.pure 2 rfl (by kernel_rfl) (fun w' => run_move) rfl rfl (WT.pure 3 rfl (by kernel_rfl) (fun w' => run_move) rfl rfl (WT.pure 4 rfl (by kernel_rfl) (fun w' => run_move) rfl rfl (WT.pure 5 rfl (by kernel_rfl) (fun w' => run_move) rfl rfl (WT.pure 6 rfl (by kernel_rfl) (fun w' => (run_indexAddr underlying129 sizeOf23 rfl rfl (by omega) (by omega))) rfl rfl (WT.load1 7 rfl (by kernel_rfl) isAgg23 rfl (RowU.cellZ h (by omega) (by omega)) rfl rfl ?_)))))))
      refine WT.pure 8 rfl (by kernel_rfl) (fun w' => run_move) rfl rfl (WT.pure 9 rfl (by kernel_rfl) (fun w' => run_move) rfl rfl (WT.pure 10 rfl (by kernel_rfl) (fun w' => (run_indexAddr underlying129 sizeOf23 rfl rfl (by omega) (by omega))) rfl rfl (WT.load1 11 rfl (by kernel_rfl) isAgg23 rfl (RowU.cellZ h (by omega) (by omega)) rfl rfl (WT.pure 12 rfl (by kernel_rfl) (fun w' => (run_indexAddr underlying129 sizeOf23 rfl rfl (by omega) (by omega))) rfl rfl (WT.eff 13 [false, false] rfl (by kernel_rfl) (by kernel_rfl) (eff_setRK (RowU.cellQ (i := k) h (by omega) (by omega)) h sizeOf23 rfl rfl (by omega) (by omega) (RowU.cellQ h (by omega) (by omega))) rfl rfl ?_)))))
      rintro _ w ⟨hqK, h⟩
      refine ⟨trivial, ?_⟩
      refine WT.pure 14 rfl (by kernel_rfl) (fun w' => (run_indexAddr underlying129 sizeOf23 rfl rfl (by omega) (by omega))) rfl rfl (WT.eff 15 [] rfl (by kernel_rfl) (by kernel_rfl) (eff_setR h sizeOf23 rfl rfl (by omega) (by omega) hqK) rfl rfl ?_)
      rintro _ w h
      refine ⟨trivial, ?_⟩
      refine WT.done (by kernel_rfl) (W.seq (W.region (WL.val run_move rfl rfl (WL.val run_assign rfl rfl (WL.val run_assign rfl rfl (WL.nil (W.ret ?_)))))))
      refine bodyQ.r2 (v1 := .int .i64 _) (v2 := .bool _) results159 rfl rfl ?_
      exact ⟨_, _, by omega, by omega, rfl, h⟩
     refine W.skip (W.seq ?_)
     refine W.draw Tryz.follows h (fun w h => ?_)
     refine WT.pure 0 rfl (by kernel_rfl) (fun w' => run_move) rfl rfl (WT.pure 1 rfl (by kernel_rfl) (fun w' => run_move) rfl rfl (WT.pure 2 rfl (by kernel_rfl) (fun w' => run_move) rfl rfl (WT.pure 3 rfl (by kernel_rfl) (fun w' => run_move) rfl rfl (WT.pure 4 rfl (by kernel_rfl) (fun w' => run_move) rfl rfl (WT.pure 5 rfl (by kernel_rfl) (fun w' => run_move) rfl rfl (WT.pure 6 rfl (by kernel_rfl) (fun w' => (run_indexAddr underlying129 sizeOf23 rfl rfl (by omega) (by omega))) rfl rfl (WT.load1 7 rfl (by kernel_rfl) isAgg23 rfl (RowU.cellZ h (by omega) (by omega)) rfl rfl ?_)))))))
     refine WT.pure 8 rfl (by kernel_rfl) (fun w' => run_move) rfl rfl (WT.pure 9 rfl (by kernel_rfl) (fun w' => run_move) rfl rfl (WT.pure 10 rfl (by kernel_rfl) (fun w' => (run_indexAddr underlying129 sizeOf23 rfl rfl (by omega) (by omega))) rfl rfl (WT.load1 11 rfl (by kernel_rfl) isAgg23 rfl (RowU.cellZ h (by omega) (by omega)) rfl rfl (WT.pure 12 rfl (by kernel_rfl) (fun w' => (run_indexAddr underlying129 sizeOf23 rfl rfl (by omega) (by omega))) rfl rfl (WT.eff 13 [false, false] rfl (by kernel_rfl) (by kernel_rfl) (eff_setRK (RowU.cellQ (i := i) h (by omega) (by omega)) h sizeOf23 rfl rfl (by omega) (by omega) (RowU.cellQ h (by omega) (by omega))) rfl rfl ?_)))))
     rintro _ w ⟨hqK, h⟩
     refine ⟨trivial, ?_⟩
     refine WT.pure 14 rfl (by kernel_rfl) (fun w' => (run_indexAddr underlying129 sizeOf23 rfl rfl (by omega) (by omega))) rfl rfl (WT.eff 15 [] rfl (by kernel_rfl) (by kernel_rfl) (eff_setR h sizeOf23 rfl rfl (by omega) (by omega) hqK) rfl rfl ?_)
     rintro _ w h
     refine ⟨trivial, ?_⟩
     refine WT.done (by kernel_rfl) (W.seq (W.region (WL.val run_move rfl rfl (WL.val (run_add rfl rfl (by omega) (by omega)) rfl rfl (WL.val run_assign rfl rfl (WL.nil (W.region ?_)))))))
     refine WL.val run_move rfl rfl (WL.val (run_sub rfl rfl (by omega) (by omega)) rfl rfl (WL.val run_assign rfl rfl (WL.nil ?_)))
     exact ⟨(i + 1, k - 1), ⟨by (try dsimp only); omega, _, mkE_of ⟨rfl, rfl, rfl, rfl, trivial⟩, h⟩, by show (k - 1 + 1 - (i + 1)).toNat < (j0 + 1 - i0).toNat; omega⟩
    refine WT.pure 3 rfl (by kernel_rfl) (fun w' => run_move) rfl rfl (WT.skip 4 rfl (by kernel_rfl) rfl rfl (WT.skip 5 rfl (by kernel_rfl) rfl rfl (WT.skip 6 rfl (by kernel_rfl) rfl rfl (WT.skip 7 rfl (by kernel_rfl) rfl rfl (WT.skip 8 rfl (by kernel_rfl) rfl rfl (WT.skip 9 rfl (by kernel_rfl) rfl rfl (WT.skip 10 rfl (by kernel_rfl) rfl rfl ?_)))))))
    refine WT.skip 11 rfl (by kernel_rfl) rfl rfl (WT.skip 12 rfl (by kernel_rfl) rfl rfl (WT.pure 13 rfl (by kernel_rfl) (fun w' => (run_pickF rfl)) rfl rfl (WT.done (by kernel_rfl) (W.condF rfl (W.exit (W.seq (W.block ?_)))))))
    refine W.loop (fun (s : Int) env w => (a ≤ s ∧ s ≤ j0 ∧ (i ≤ s + 1 ∨ s = j0)) ∧ ∃ jk, env = mkE jk [(0, .slice (some ⟨bd, od, none⟩) n cp), (1, .int .i64 a), (10, .int .i64 i), (11, .int .i64 s)] ∧ On W0 (RowU Q (.slice (some ⟨bd, od, none⟩) n cp) n :: L) w) (fun s => (s + 1 - i).toNat) (j0) ?_ ?_
    · exact ⟨by (try dsimp only); omega, _, mkE_of ⟨rfl, rfl, rfl, rfl, trivial⟩, h⟩
    rintro k env w ⟨hI14, jk, rfl, h⟩
    refine W.seq (W.seq ?_)
    refine W.draw Tryz.follows h (fun w h => ?_)
    refine WT.pure 0 rfl (by kernel_rfl) (fun w' => run_move) rfl rfl (WT.pure 1 rfl (by kernel_rfl) (fun w' => run_move) rfl rfl ?_)
    refine WT.dec 2 rfl (by kernel_rfl) (fun w' => (run_leq rfl rfl)) rfl rfl (fun c117 => ?_) (fun c117 => ?_)
    ·
     refine WT.pure 3 rfl (by kernel_rfl) (fun w' => run_move) rfl rfl (WT.pure 4 rfl (by kernel_rfl) (fun w' => run_move) rfl rfl (WT.pure 5 rfl (by kernel_rfl) (fun w' => run_move) rfl rfl (WT.pure 6 rfl (by kernel_rfl) (fun w' => (run_indexAddr underlying129 sizeOf23 rfl rfl (by omega) (by omega))) rfl rfl (WT.load1 7 rfl (by kernel_rfl) isAgg23 rfl (RowU.cellZ h (by omega) (by omega)) rfl rfl (WT.pure 8 rfl (by kernel_rfl) (fun w' => run_move) rfl rfl (WT.pure 9 rfl (by kernel_rfl) (fun w' => run_move) rfl rfl (WT.pure 10 rfl (by kernel_rfl) (fun w' => (run_indexAddr underlying129 sizeOf23 rfl rfl (by omega) (by omega))) rfl rfl ?_)))))))
     refine WT.load1 11 rfl (by kernel_rfl) isAgg23 rfl (RowU.cellZ h (by omega) (by omega)) rfl rfl (WT.eff 12 [false, false] rfl (by kernel_rfl) (by kernel_rfl) (eff_call call157 (less_ok h)) rfl rfl ?_)
     rintro _ w ⟨⟨b127, rfl⟩, h⟩
     refine ⟨trivial, ?_⟩
     refine WT.pure 13 rfl (by kernel_rfl) (fun w' => (run_not rfl)) rfl rfl (WT.pure 14 rfl (by kernel_rfl) (fun w' => (run_pickT rfl)) rfl rfl (WT.done (by kernel_rfl) ?_))
     refine W.condB rfl (fun c42 => ?_) (fun c42 => ?_)
     ·
      refine W.skip (W.block (W.region (WL.val run_move rfl rfl (WL.val (run_sub rfl rfl (by omega) (by omega)) rfl rfl (WL.val run_assign rfl rfl (WL.nil ?_))))))
      exact ⟨k - 1, ⟨by (try dsimp only); omega, _, mkE_of ⟨rfl, rfl, rfl, rfl, trivial⟩, h⟩, by show (k - 1 + 1 - i).toNat < (k + 1 - i).toNat; omega⟩
     refine W.exit (W.seq (W.seq (W.region (WL.val run_move rfl rfl (WL.val run_move rfl rfl (WL.val (run_gtr rfl rfl) rfl rfl (WL.nil ?_)))))))
     refine W.condIf rfl (fun c48 => ?_) (fun c48 => ?_)
     ·
      refine W.exit (W.seq ?_)
      refine W.draw Tryz.follows h (fun w h => ?_)
      refine WT.pure 0 rfl (by kernel_rfl) (fun w' => run_move) rfl rfl (WT.pure 1 rfl (by kernel_rfl) (fun w' => run_move) rfl rfl (WT.pure 2 rfl (by kernel_rfl) (fun w' => run_move) rfl rfl (WT.pure 3 rfl (by kernel_rfl) (fun w' => run_move) rfl rfl (WT.pure 4 rfl (by kernel_rfl) (fun w' => run_move) rfl rfl (WT.pure 5 rfl (by kernel_rfl) (fun w' => run_move) rfl rfl (WT.pure 6 rfl (by kernel_rfl) (fun w' => (run_indexAddr underlying129 sizeOf23 rfl rfl (by omega) (by omega))) rfl rfl (WT.load1 7 rfl (by kernel_rfl) isAgg23 rfl (RowU.cellZ h (by omega) (by omega)) rfl rfl ?_)))))))
      refine WT.pure 8 rfl (by kernel_rfl) (fun w' => run_move) rfl rfl (WT.pure 9 rfl (by kernel_rfl) (fun w' => run_move) rfl rfl (WT.pure 10 rfl (by kernel_rfl) (fun w' => (run_indexAddr underlying129 sizeOf23 rfl rfl (by omega) (by omega))) rfl rfl (WT.load1 11 rfl (by kernel_rfl) isAgg23 rfl (RowU.cellZ h (by omega) (by omega)) rfl rfl (WT.pure 12 rfl (by kernel_rfl) (fun w' => (run_indexAddr underlying129 sizeOf23 rfl rfl (by omega) (by omega))) rfl rfl (WT.eff 13 [false, false] rfl (by kernel_rfl) (by kernel_rfl) (eff_setRK (RowU.cellQ (i := k) h (by omega) (by omega)) h sizeOf23 rfl rfl (by omega) (by omega) (RowU.cellQ h (by omega) (by omega))) rfl rfl ?_)))))
      rintro _ w ⟨hqK, h⟩
      refine ⟨trivial, ?_⟩
      refine WT.pure 14 rfl (by kernel_rfl) (fun w' => (run_indexAddr underlying129 sizeOf23 rfl rfl (by omega) (by omega))) rfl rfl (WT.eff 15 [] rfl (by kernel_rfl) (by kernel_rfl) (eff_setR h sizeOf23 rfl rfl (by omega) (by omega) hqK) rfl rfl ?_)
      rintro _ w h
      refine ⟨trivial, ?_⟩
      refine WT.done (by kernel_rfl) (W.seq (W.region (WL.val run_move rfl rfl (WL.val run_assign rfl rfl (WL.val run_assign rfl rfl (WL.nil (W.ret ?_)))))))
      refine bodyQ.r2 (v1 := .int .i64 _) (v2 := .bool _) results159 rfl rfl ?_
      exact ⟨_, _, by omega, by omega, rfl, h⟩
     refine W.skip (W.seq ?_)
     refine W.draw Tryz.follows h (fun w h => ?_)
     refine WT.pure 0 rfl (by kernel_rfl) (fun w' => run_move) rfl rfl (WT.pure 1 rfl (by kernel_rfl) (fun w' => run_move) rfl rfl (WT.pure 2 rfl (by kernel_rfl) (fun w' => run_move) rfl rfl (WT.pure 3 rfl (by kernel_rfl) (fun w' => run_move) rfl rfl (WT.pure 4 rfl (by kernel_rfl) (fun w' => run_move) rfl rfl (WT.pure 5 rfl (by kernel_rfl) (fun w' => run_move) rfl rfl (WT.pure 6 rfl (by kernel_rfl) (fun w' => (run_indexAddr underlying129 sizeOf23 rfl rfl (by omega) (by omega))) rfl rfl (WT.load1 7 rfl (by kernel_rfl) isAgg23 rfl (RowU.cellZ h (by omega) (by omega)) rfl rfl ?_)))))))
     refine WT.pure 8 rfl (by kernel_rfl) (fun w' => run_move) rfl rfl (WT.pure 9 rfl (by kernel_rfl) (fun w' => run_move) rfl rfl (WT.pure 10 rfl (by kernel_rfl) (fun w' => (run_indexAddr underlying129 sizeOf23 rfl rfl (by omega) (by omega))) rfl rfl (WT.load1 11 rfl (by kernel_rfl) isAgg23 rfl (RowU.cellZ h (by omega) (by omega)) rfl rfl (WT.pure 12 rfl (by kernel_rfl) (fun w' => (run_indexAddr underlying129 sizeOf23 rfl rfl (by omega) (by omega))) rfl rfl (WT.eff 13 [false, false] rfl (by kernel_rfl) (by kernel_rfl) (eff_setRK (RowU.cellQ (i := i) h (by omega) (by omega)) h sizeOf23 rfl rfl (by omega) (by omega) (RowU.cellQ h (by omega) (by omega))) rfl rfl ?_)))))
     rintro _ w ⟨hqK, h⟩
     refine ⟨trivial, ?_⟩
     refine WT.pure 14 rfl (by kernel_rfl) (fun w' => (run_indexAddr underlying129 sizeOf23 rfl rfl (by omega) (by omega))) rfl rfl (WT.eff 15 [] rfl (by kernel_rfl) (by kernel_rfl) (eff_setR h sizeOf23 rfl rfl (by omega) (by omega) hqK) rfl rfl ?_)
     rintro _ w h
     refine ⟨trivial, ?_⟩
     refine WT.done (by kernel_rfl) (W.seq (W.region (WL.val run_move rfl rfl (WL.val (run_add rfl rfl (by omega) (by omega)) rfl rfl (WL.val run_assign rfl rfl (WL.nil (W.region ?_)))))))
     refine WL.val run_move rfl rfl (WL.val (run_sub rfl rfl (by omega) (by omega)) rfl rfl (WL.val run_assign rfl rfl (WL.nil ?_)))
     exact ⟨(i + 1, k - 1), ⟨by (try dsimp only); omega, _, mkE_of ⟨rfl, rfl, rfl, rfl, trivial⟩, h⟩, by show (k - 1 + 1 - (i + 1)).toNat < (j0 + 1 - i0).toNat; omega⟩
    refine WT.pure 3 rfl (by kernel_rfl) (fun w' => run_move) rfl rfl (WT.skip 4 rfl (by kernel_rfl) rfl rfl (WT.skip 5 rfl (by kernel_rfl) rfl rfl (WT.skip 6 rfl (by kernel_rfl) rfl rfl (WT.skip 7 rfl (by kernel_rfl) rfl rfl (WT.skip 8 rfl (by kernel_rfl) rfl rfl (WT.skip 9 rfl (by kernel_rfl) rfl rfl (WT.skip 10 rfl (by kernel_rfl) rfl rfl ?_)))))))
    refine WT.skip 11 rfl (by kernel_rfl) rfl rfl (WT.skip 12 rfl (by kernel_rfl) rfl rfl (WT.skip 13 rfl (by kernel_rfl) rfl rfl (WT.pure 14 rfl (by kernel_rfl) (fun w' => (run_pickF rfl)) rfl rfl (WT.done (by kernel_rfl) (W.condF rfl (W.exit (W.seq ?_)))))))
    refine W.seq (W.region (WL.val run_move rfl rfl (WL.val run_move rfl rfl (WL.val (run_gtr rfl rfl) rfl rfl (WL.nil ?_)))))
    refine W.condIf rfl (fun c48 => ?_) (fun c48 => ?_)
    ·
     refine W.exit (W.seq ?_)
     refine W.draw Tryz.follows h (fun w h => ?_)
     refine WT.pure 0 rfl (by kernel_rfl) (fun w' => run_move) rfl rfl (WT.pure 1 rfl (by kernel_rfl) (fun w' => run_move) rfl rfl (WT.pure 2 rfl (by kernel_rfl) (fun w' => run_move) rfl rfl (WT.pure 3 rfl (by kernel_rfl) (fun w' => run_move) rfl rfl (WT.pure 4 rfl (by kernel_rfl) (fun w' => run_move) rfl rfl (WT.pure 5 rfl (by kernel_rfl) (fun w' => run_move) rfl rfl (WT.pure 6 rfl (by kernel_rfl) (fun w' => (run_indexAddr underlying129 sizeOf23 rfl rfl (by omega) (by omega))) rfl rfl (WT.load1 7 rfl (by kernel_rfl) isAgg23 rfl (RowU.cellZ h (by omega) (by omega)) rfl rfl ?_)))))))
     refine WT.pure 8 rfl (by kernel_rfl) (fun w' => run_move) rfl rfl (WT.pure 9 rfl (by kernel_rfl) (fun w' => run_move) rfl rfl (WT.pure 10 rfl (by kernel_rfl) (fun w' => (run_indexAddr underlying129 sizeOf23 rfl rfl (by omega) (by omega))) rfl rfl (WT.load1 11 rfl (by kernel_rfl) isAgg23 rfl (RowU.cellZ h (by omega) (by omega)) rfl rfl (WT.pure 12 rfl (by kernel_rfl) (fun w' => (run_indexAddr underlying129 sizeOf23 rfl rfl (by omega) (by omega))) rfl rfl (WT.eff 13 [false, false] rfl (by kernel_rfl) (by kernel_rfl) (eff_setRK (RowU.cellQ (i := k) h (by omega) (by omega)) h sizeOf23 rfl rfl (by omega) (by omega) (RowU.cellQ h (by omega) (by omega))) rfl rfl ?_)))))
     rintro _ w ⟨hqK, h⟩
     refine ⟨trivial, ?_⟩
     refine WT.pure 14 rfl (by kernel_rfl) (fun w' => (run_indexAddr underlying129 sizeOf23 rfl rfl (by omega) (by omega))) rfl rfl (WT.eff 15 [] rfl (by kernel_rfl) (by kernel_rfl) (eff_setR h sizeOf23 rfl rfl (by omega) (by omega) hqK) rfl rfl ?_)
     rintro _ w h
     refine ⟨trivial, ?_⟩
     refine WT.done (by kernel_rfl) (W.seq (W.region (WL.val run_move rfl rfl (WL.val run_assign rfl rfl (WL.val run_assign rfl rfl (WL.nil (W.ret ?_)))))))
     refine bodyQ.r2 (v1 := .int .i64 _) (v2 := .bool _) results159 rfl rfl ?_
     exact ⟨_, _, by omega, by omega, rfl, h⟩
    refine W.skip (W.seq ?_)
    refine W.draw Tryz.follows h (fun w h => ?_)
    refine WT.pure 0 rfl (by kernel_rfl) (fun w' => run_move) rfl rfl (WT.pure 1 rfl (by kernel_rfl) (fun w' => run_move) rfl rfl (WT.pure 2 rfl (by kernel_rfl) (fun w' => run_move) rfl rfl (WT.pure 3 rfl (by kernel_rfl) (fun w' => run_move) rfl rfl (WT.pure 4 rfl (by kernel_rfl) (fun w' => run_move) rfl rfl (WT.pure 5 rfl (by kernel_rfl) (fun w' => run_move) rfl rfl (WT.pure 6 rfl (by kernel_rfl) (fun w' => (run_indexAddr underlying129 sizeOf23 rfl rfl (by omega) (by omega))) rfl rfl (WT.load1 7 rfl (by kernel_rfl) isAgg23 rfl (RowU.cellZ h (by omega) (by omega)) rfl rfl ?_)))))))
    refine WT.pure 8 rfl (by kernel_rfl) (fun w' => run_move) rfl rfl (WT.pure 9 rfl (by kernel_rfl) (fun w' => run_move) rfl rfl (WT.pure 10 rfl (by kernel_rfl) (fun w' => (run_indexAddr underlying129 sizeOf23 rfl rfl (by omega) (by omega))) rfl rfl (WT.load1 11 rfl (by kernel_rfl) isAgg23 rfl (RowU.cellZ h (by omega) (by omega)) rfl rfl (WT.pure 12 rfl (by kernel_rfl) (fun w' => (run_indexAddr underlying129 sizeOf23 rfl rfl (by omega) (by omega))) rfl rfl (WT.eff 13 [false, false] rfl (by kernel_rfl) (by kernel_rfl) (eff_setRK (RowU.cellQ (i := i) h (by omega) (by omega)) h sizeOf23 rfl rfl (by omega) (by omega) (RowU.cellQ h (by omega) (by omega))) rfl rfl ?_)))))
    rintro _ w ⟨hqK, h⟩
    refine ⟨trivial, ?_⟩
    refine WT.pure 14 rfl (by kernel_rfl) (fun w' => (run_indexAddr underlying129 sizeOf23 rfl rfl (by omega) (by omega))) rfl rfl (WT.eff 15 [] rfl (by kernel_rfl) (by kernel_rfl) (eff_setR h sizeOf23 rfl rfl (by omega) (by omega) hqK) rfl rfl ?_)
    rintro _ w h
    refine ⟨trivial, ?_⟩
    refine WT.done (by kernel_rfl) (W.seq (W.region (WL.val run_move rfl rfl (WL.val (run_add rfl rfl (by omega) (by omega)) rfl rfl (WL.val run_assign rfl rfl (WL.nil (W.region ?_)))))))
    refine WL.val run_move rfl rfl (WL.val (run_sub rfl rfl (by omega) (by omega)) rfl rfl (WL.val run_assign rfl rfl (WL.nil ?_)))
    exact ⟨(i + 1, k - 1), ⟨by (try dsimp only); omega, _, mkE_of ⟨rfl, rfl, rfl, rfl, trivial⟩, h⟩, by show (k - 1 + 1 - (i + 1)).toNat < (j0 + 1 - i0).toNat; omega⟩
   refine WT.pure 3 rfl (by kernel_rfl) (fun w' => run_move) rfl rfl (WT.skip 4 rfl (by kernel_rfl) rfl rfl (WT.skip 5 rfl (by kernel_rfl) rfl rfl (WT.skip 6 rfl (by kernel_rfl) rfl rfl (WT.skip 7 rfl (by kernel_rfl) rfl rfl (WT.skip 8 rfl (by kernel_rfl) rfl rfl (WT.skip 9 rfl (by kernel_rfl) rfl rfl (WT.skip 10 rfl (by kernel_rfl) rfl rfl ?_)))))))
   refine WT.skip 11 rfl (by kernel_rfl) rfl rfl (WT.skip 12 rfl (by kernel_rfl) rfl rfl (WT.skip 13 rfl (by kernel_rfl) rfl rfl (WT.pure 14 rfl (by kernel_rfl) (fun w' => (run_pickF rfl)) rfl rfl (WT.done (by kernel_rfl) (W.condF rfl (W.exit (W.seq ?_)))))))
   refine W.seq (W.region (WL.val run_move rfl rfl (WL.val run_move rfl rfl (WL.val (run_gtr rfl rfl) rfl rfl (WL.nil ?_)))))
   refine W.condIf rfl (fun c20 => ?_) (fun c20 => ?_)
   ·
    refine W.seq ?_
    refine W.draw Tryz.follows h (fun w h => ?_)
    refine WT.pure 0 rfl (by kernel_rfl) (fun w' => run_move) rfl rfl (WT.pure 1 rfl (by kernel_rfl) (fun w' => run_move) rfl rfl (WT.pure 2 rfl (by kernel_rfl) (fun w' => run_move) rfl rfl (WT.pure 3 rfl (by kernel_rfl) (fun w' => run_move) rfl rfl (WT.pure 4 rfl (by kernel_rfl) (fun w' => run_move) rfl rfl (WT.pure 5 rfl (by kernel_rfl) (fun w' => run_move) rfl rfl (WT.pure 6 rfl (by kernel_rfl) (fun w' => (run_indexAddr underlying129 sizeOf23 rfl rfl (by omega) (by omega))) rfl rfl (WT.load1 7 rfl (by kernel_rfl) isAgg23 rfl (RowU.cellZ h (by omega) (by omega)) rfl rfl ?_)))))))
    refine WT.pure 8 rfl (by kernel_rfl) (fun w' => run_move) rfl rfl (WT.pure 9 rfl (by kernel_rfl) (fun w' => run_move) rfl rfl (WT.pure 10 rfl (by kernel_rfl) (fun w' => (run_indexAddr underlying129 sizeOf23 rfl rfl (by omega) (by omega))) rfl rfl (WT.load1 11 rfl (by kernel_rfl) isAgg23 rfl (RowU.cellZ h (by omega) (by omega)) rfl rfl (WT.pure 12 rfl (by kernel_rfl) (fun w' => (run_indexAddr underlying129 sizeOf23 rfl rfl (by omega) (by omega))) rfl rfl (WT.eff 13 [false, false] rfl (by kernel_rfl) (by kernel_rfl) (eff_setRK (RowU.cellQ (i := k) h (by omega) (by omega)) h sizeOf23 rfl rfl (by omega) (by omega) (RowU.cellQ h (by omega) (by omega))) rfl rfl ?_)))))
    rintro _ w ⟨hqK, h⟩
    refine ⟨trivial, ?_⟩
    refine WT.pure 14 rfl (by kernel_rfl) (fun w' => (run_indexAddr underlying129 sizeOf23 rfl rfl (by omega) (by omega))) rfl rfl (WT.eff 15 [] rfl (by kernel_rfl) (by kernel_rfl) (eff_setR h sizeOf23 rfl rfl (by omega) (by omega) hqK) rfl rfl ?_)
    rintro _ w h
    refine ⟨trivial, ?_⟩
    refine WT.done (by kernel_rfl) (W.seq (W.region (WL.val run_move rfl rfl (WL.val run_assign rfl rfl (WL.val run_assign rfl rfl (WL.nil (W.ret ?_)))))))
    refine bodyQ.r2 (v1 := .int .i64 _) (v2 := .bool _) results159 rfl rfl ?_
    exact ⟨_, _, by omega, by omega, rfl, h⟩
   refine W.skip (W.seq ?_)
   refine W.draw Tryz.follows h (fun w h => ?_)
   refine WT.pure 0 rfl (by kernel_rfl) (fun w' => run_move) rfl rfl (WT.pure 1 rfl (by kernel_rfl) (fun w' => run_move) rfl rfl (WT.pure 2 rfl (by kernel_rfl) (fun w' => run_move) rfl rfl (WT.pure 3 rfl (by kernel_rfl) (fun w' => run_move) rfl rfl (WT.pure 4 rfl (by kernel_rfl) (fun w' => run_move) rfl rfl (WT.pure 5 rfl (by kernel_rfl) (fun w' => run_move) rfl rfl (WT.pure 6 rfl (by kernel_rfl) (fun w' => (run_indexAddr underlying129 sizeOf23 rfl rfl (by omega) (by omega))) rfl rfl (WT.load1 7 rfl (by kernel_rfl) isAgg23 rfl (RowU.cellZ h (by omega) (by omega)) rfl rfl ?_)))))))
   refine WT.pure 8 rfl (by kernel_rfl) (fun w' => run_move) rfl rfl (WT.pure 9 rfl (by kernel_rfl) (fun w' => run_move) rfl rfl (WT.pure 10 rfl (by kernel_rfl) (fun w' => (run_indexAddr underlying129 sizeOf23 rfl rfl (by omega) (by omega))) rfl rfl (WT.load1 11 rfl (by kernel_rfl) isAgg23 rfl (RowU.cellZ h (by omega) (by omega)) rfl rfl (WT.pure 12 rfl (by kernel_rfl) (fun w' => (run_indexAddr underlying129 sizeOf23 rfl rfl (by omega) (by omega))) rfl rfl (WT.eff 13 [false, false] rfl (by kernel_rfl) (by kernel_rfl) (eff_setRK (RowU.cellQ (i := i) h (by omega) (by omega)) h sizeOf23 rfl rfl (by omega) (by omega) (RowU.cellQ h (by omega) (by omega))) rfl rfl ?_)))))
   rintro _ w ⟨hqK, h⟩
   refine ⟨trivial, ?_⟩
   refine WT.pure 14 rfl (by kernel_rfl) (fun w' => (run_indexAddr underlying129 sizeOf23 rfl rfl (by omega) (by omega))) rfl rfl (WT.eff 15 [] rfl (by kernel_rfl) (by kernel_rfl) (eff_setR h sizeOf23 rfl rfl (by omega) (by omega) hqK) rfl rfl ?_)
   rintro _ w h
   refine ⟨trivial, ?_⟩
   refine WT.done (by kernel_rfl) (W.seq (W.region (WL.val run_move rfl rfl (WL.val (run_add rfl rfl (by omega) (by omega)) rfl rfl (WL.val run_assign rfl rfl (WL.nil (W.seq ?_)))))))
   refine W.region (WL.val run_move rfl rfl (WL.val (run_sub rfl rfl (by omega) (by omega)) rfl rfl (WL.val run_assign rfl rfl (WL.nil (W.seq (W.block ?_))))))
   refine W.loop (fun (s : Int × Int) env w => (a + 1 ≤ s.1 ∧ s.1 ≤ b ∧ s.1 ≤ s.2 + 2 ∧ a ≤ s.2 ∧ s.2 < b) ∧ ∃ jk, env = mkE jk [(0, .slice (some ⟨bd, od, none⟩) n cp), (1, .int .i64 a), (10, .int .i64 s.1), (11, .int .i64 s.2)] ∧ On W0 (RowU Q (.slice (some ⟨bd, od, none⟩) n cp) n :: L) w) (fun s => (s.2 + 1 - s.1).toNat) ((i + 1, k - 1)) ?_ ?_
   · exact ⟨by (try dsimp only); omega, _, mkE_of ⟨rfl, rfl, rfl, rfl, trivial⟩, h⟩
   rintro ⟨i0, j0⟩ env w ⟨hI12, jk, rfl, h⟩
   try dsimp only at hI12
   refine W.block (W.seq (W.block ?_))
   refine W.loop (fun (s : Int) env w => (i0 ≤ s ∧ (s ≤ j0 + 1 ∨ s = i0)) ∧ ∃ jk, env = mkE jk [(0, .slice (some ⟨bd, od, none⟩) n cp), (1, .int .i64 a), (10, .int .i64 s), (11, .int .i64 j0)] ∧ On W0 (RowU Q (.slice (some ⟨bd, od, none⟩) n cp) n :: L) w) (fun s => (j0 + 1 - s).toNat) (i0) ?_ ?_
   · exact ⟨by (try dsimp only); omega, _, mkE_of ⟨rfl, rfl, rfl, rfl, trivial⟩, h⟩
   rintro i env w ⟨hI13, jk, rfl, h⟩
   refine W.seq (W.seq ?_)
   refine W.draw Tryz.follows h (fun w h => ?_)
   refine WT.pure 0 rfl (by kernel_rfl) (fun w' => run_move) rfl rfl (WT.pure 1 rfl (by kernel_rfl) (fun w' => run_move) rfl rfl ?_)
   refine WT.dec 2 rfl (by kernel_rfl) (fun w' => (run_leq rfl rfl)) rfl rfl (fun c101 => ?_) (fun c101 => ?_)
   ·
    refine WT.pure 3 rfl (by kernel_rfl) (fun w' => run_move) rfl rfl (WT.pure 4 rfl (by kernel_rfl) (fun w' => run_move) rfl rfl (WT.pure 5 rfl (by kernel_rfl) (fun w' => run_move) rfl rfl (WT.pure 6 rfl (by kernel_rfl) (fun w' => (run_indexAddr underlying129 sizeOf23 rfl rfl (by omega) (by omega))) rfl rfl (WT.load1 7 rfl (by kernel_rfl) isAgg23 rfl (RowU.cellZ h (by omega) (by omega)) rfl rfl (WT.pure 8 rfl (by kernel_rfl) (fun w' => run_move) rfl rfl (WT.pure 9 rfl (by kernel_rfl) (fun w' => run_move) rfl rfl (WT.pure 10 rfl (by kernel_rfl) (fun w' => (run_indexAddr underlying129 sizeOf23 rfl rfl (by omega) (by omega))) rfl rfl ?_)))))))
    refine WT.load1 11 rfl (by kernel_rfl) isAgg23 rfl (RowU.cellZ h (by omega) (by omega)) rfl rfl (WT.eff 12 [false, false] rfl (by kernel_rfl) (by kernel_rfl) (eff_call call157 (less_ok h)) rfl rfl ?_)
    rintro _ w ⟨⟨b111, rfl⟩, h⟩
    refine ⟨trivial, ?_⟩
    refine WT.pure 13 rfl (by kernel_rfl) (fun w' => (run_pickT rfl)) rfl rfl (WT.done (by kernel_rfl) ?_)
    refine W.condB rfl (fun c34 => ?_) (fun c34 => ?_)
    ·
     refine W.skip (W.block (W.region (WL.val run_move rfl rfl (WL.val (run_add rfl rfl (by omega) (by omega)) rfl rfl (WL.val run_assign rfl rfl (WL.nil ?_))))))
     exact ⟨i + 1, ⟨by (try dsimp only); omega, _, mkE_of ⟨rfl, rfl, rfl, rfl, trivial⟩, h⟩, by show (j0 + 1 - (i + 1)).toNat < (j0 + 1 - i).toNat; omega⟩
    refine W.exit (W.seq (W.block ?_))
    refine W.loop (fun (s : Int) env w => (a ≤ s ∧ s ≤ j0 ∧ (i ≤ s + 1 ∨ s = j0)) ∧ ∃ jk, env = mkE jk [(0, .slice (some ⟨bd, od, none⟩) n cp), (1, .int .i64 a), (10, .int .i64 i), (11, .int .i64 s)] ∧ On W0 (RowU Q (.slice (some ⟨bd, od, none⟩) n cp) n :: L) w) (fun s => (s + 1 - i).toNat) (j0) ?_ ?_
    · exact ⟨by (try dsimp only); omega, _, mkE_of ⟨rfl, rfl, rfl, rfl, trivial⟩, h⟩
    rintro k env w ⟨hI14, jk, rfl, h⟩
    refine W.seq (W.seq ?_)
    refine W.draw Tryz.follows h (fun w h => ?_)
    refine WT.pure 0 rfl (by kernel_rfl) (fun w' => run_move) rfl rfl (WT.pure 1 rfl (by kernel_rfl) (fun w' => run_move) rfl rfl ?_)
    refine WT.dec 2 rfl (by kernel_rfl) (fun w' => (run_leq rfl rfl)) rfl rfl (fun c117 => ?_) (fun c117 => ?_)
    ·
     refine WT.pure 3 rfl (by kernel_rfl) (fun w' => run_move) rfl rfl (WT.pure 4 rfl (by kernel_rfl) (fun w' => run_move) rfl rfl (WT.pure 5 rfl (by kernel_rfl) (fun w' => run_move) rfl rfl (WT.pure 6 rfl (by kernel_rfl) (fun w' => (run_indexAddr underlying129 sizeOf23 rfl rfl (by omega) (by omega))) rfl rfl (WT.load1 7 rfl (by kernel_rfl) isAgg23 rfl (RowU.cellZ h (by omega) (by omega)) rfl rfl (WT.pure 8 rfl (by kernel_rfl) (fun w' => run_move) rfl rfl (WT.pure 9 rfl (by kernel_rfl) (fun w' => run_move) rfl rfl (WT.pure 10 rfl (by kernel_rfl) (fun w' => (run_indexAddr underlying129 sizeOf23 rfl rfl (by omega) (by omega))) rfl rfl ?_)))))))
     refine WT.load1 11 rfl (by kernel_rfl) isAgg23 rfl (RowU.cellZ h (by omega) (by omega)) rfl rfl (WT.eff 12 [false, false] rfl (by kernel_rfl) (by kernel_rfl) (eff_call call157 (less_ok h)) rfl rfl ?_)
     rintro _ w ⟨⟨b127, rfl⟩, h⟩
     refine ⟨trivial, ?_⟩
     refine WT.pure 13 rfl (by kernel_rfl) (fun w' => (run_not rfl)) rfl rfl (WT.pure 14 rfl (by kernel_rfl) (fun w' => (run_pickT rfl)) rfl rfl (WT.done (by kernel_rfl) ?_))
     refine W.condB rfl (fun c42 => ?_) (fun c42 => ?_)
     ·
      refine W.skip (W.block (W.region (WL.val run_move rfl rfl (WL.val (run_sub rfl rfl (by omega) (by omega)) rfl rfl (WL.val run_assign rfl rfl (WL.nil ?_))))))
      exact ⟨k - 1, ⟨by (try dsimp only); omega, _, mkE_of ⟨rfl, rfl, rfl, rfl, trivial⟩, h⟩, by show (k - 1 + 1 - i).toNat < (k + 1 - i).toNat; omega⟩
     refine W.exit (W.seq (W.seq (W.region (WL.val run_move rfl rfl (WL.val run_move rfl rfl (WL.val (run_gtr rfl rfl) rfl rfl (WL.nil ?_)))))))
     refine W.condIf rfl (fun c48 => ?_) (fun c48 => ?_)
     ·
      refine W.exit (W.seq ?_)
      refine W.draw Tryz.follows h (fun w h => ?_)
      refine WT.pure 0 rfl (by kernel_rfl) (fun w' => run_move) rfl rfl (WT.pure 1 rfl (by kernel_rfl) (fun w' => run_move) rfl rfl (WT.pure 2 rfl (by kernel_rfl) (fun w' => run_move) rfl rfl (WT.pure 3 rfl (by kernel_rfl) (fun w' => run_move) rfl rfl (WT.pure 4 rfl (by kernel_rfl) (fun w' => run_move) rfl rfl (WT.pure 5 rfl (by kernel_rfl) (fun w' => run_move) rfl rfl (WT.pure 6 rfl (by kernel_rfl) (fun w' => (run_indexAddr underlying129 sizeOf23 rfl rfl (by omega) (by omega))) rfl rfl (WT.load1 7 rfl (by kernel_rfl) isAgg23 rfl (RowU.cellZ h (by omega) (by omega)) rfl rfl ?_)))))))
      refine WT.pure 8 rfl (by kernel_rfl) (fun w' => run_move) rfl rfl (WT.pure 9 rfl (by kernel_rfl) (fun w' => run_move) rfl rfl (WT.pure 10 rfl (by kernel_rfl) (fun w' => (run_indexAddr underlying129 sizeOf23 rfl rfl (by omega) (by omega))) rfl rfl (WT.load1 11 rfl (by kernel_rfl) isAgg23 rfl (RowU.cellZ h (by omega) (by omega)) rfl rfl (WT.pure 12 rfl (by kernel_rfl) (fun w' => (run_indexAddr underlying129 sizeOf23 rfl rfl (by omega) (by omega))) rfl rfl (WT.eff 13 [false, false] rfl (by kernel_rfl) (by kernel_rfl) (eff_setRK (RowU.cellQ (i := k) h (by omega) (by omega)) h sizeOf23 rfl rfl (by omega) (by omega) (RowU.cellQ h (by omega) (by omega))) rfl rfl ?_)))))
      rintro _ w ⟨hqK, h⟩
      refine ⟨trivial, ?_⟩
      refine WT.pure 14 rfl (by kernel_rfl) (fun w' => (run_indexAddr underlying129 sizeOf23 rfl rfl (by omega) (by omega))) rfl rfl (WT.eff 15 [] rfl (by kernel_rfl) (by kernel_rfl) (eff_setR h sizeOf23 rfl rfl (by omega) (by omega) hqK) rfl rfl ?_)
      rintro _ w h
      refine ⟨trivial, ?_⟩
      refine WT.done (by kernel_rfl) (W.seq (W.region (WL.val run_move rfl rfl (WL.val run_assign rfl rfl (WL.val run_assign rfl rfl (WL.nil (W.ret ?_)))))))
      refine bodyQ.r2 (v1 := .int .i64 _) (v2 := .bool _) results159 rfl rfl ?_
      exact ⟨_, _, by omega, by omega, rfl, h⟩
     refine W.skip (W.seq ?_)
     refine W.draw Tryz.follows h (fun w h => ?_)
     refine WT.pure 0 rfl (by kernel_rfl) (fun w' => run_move) rfl rfl (WT.pure 1 rfl (by kernel_rfl) (fun w' => run_move) rfl rfl (WT.pure 2 rfl (by kernel_rfl) (fun w' => run_move) rfl rfl (WT.pure 3 rfl (by kernel_rfl) (fun w' => run_move) rfl rfl (WT.pure 4 rfl (by kernel_rfl) (fun w' => run_move) rfl rfl (WT.pure 5 rfl (by kernel_rfl) (fun w' => run_move) rfl rfl (WT.pure 6 rfl (by kernel_rfl) (fun w' => (run_indexAddr underlying129 sizeOf23 rfl rfl (by omega) (by omega))) rfl rfl (WT.load1 7 rfl (by kernel_rfl) isAgg23 rfl (RowU.cellZ h (by omega) (by omega)) rfl rfl ?_)))))))
     refine WT.pure 8 rfl (by kernel_rfl) (fun w' => run_move) rfl rfl (WT.pure 9 rfl (by kernel_rfl) (fun w' => run_move) rfl rfl (WT.pure 10 rfl (by kernel_rfl) (fun w' => (run_indexAddr underlying129 sizeOf23 rfl rfl (by omega) (by omega))) rfl rfl (WT.load1 11 rfl (by kernel_rfl) isAgg23 rfl (RowU.cellZ h (by omega) (by omega)) rfl rfl (WT.pure 12 rfl (by kernel_rfl) (fun w' => (run_indexAddr underlying129 sizeOf23 rfl rfl (by omega) (by omega))) rfl rfl (WT.eff 13 [false, false] rfl (by kernel_rfl) (by kernel_rfl) (eff_setRK (RowU.cellQ (i := i) h (by omega) (by omega)) h sizeOf23 rfl rfl (by omega) (by omega) (RowU.cellQ h (by omega) (by omega))) rfl rfl ?_)))))
     rintro _ w ⟨hqK, h⟩
     refine ⟨trivial, ?_⟩
     refine WT.pure 14 rfl (by kernel_rfl) (fun w' => (run_indexAddr underlying129 sizeOf23 rfl rfl (by omega) (by omega))) rfl rfl (WT.eff 15 [] rfl (by kernel_rfl) (by kernel_rfl) (eff_setR h sizeOf23 rfl rfl (by omega) (by omega) hqK) rfl rfl ?_)
     rintro _ w h
     refine ⟨trivial, ?_⟩
     refine WT.done (by kernel_rfl) (W.seq (W.region (WL.val run_move rfl rfl (WL.val (run_add rfl rfl (by omega) (by omega)) rfl rfl (WL.val run_assign rfl rfl (WL.nil (W.region ?_)))))))
     refine WL.val run_move rfl rfl (WL.val (run_sub rfl rfl (by omega) (by omega)) rfl rfl (WL.val run_assign rfl rfl (WL.nil ?_)))
     exact ⟨(i + 1, k - 1), ⟨by (try dsimp only); omega, _, mkE_of ⟨rfl, rfl, rfl, rfl, trivial⟩, h⟩, by show (k - 1 + 1 - (i + 1)).toNat < (j0 + 1 - i0).toNat; omega⟩
    refine WT.pure 3 rfl (by kernel_rfl) (fun w' => run_move) rfl rfl (WT.skip 4 rfl (by kernel_rfl) rfl rfl (WT.skip 5 rfl (by kernel_rfl) rfl rfl (WT.skip 6 rfl (by kernel_rfl) rfl rfl (WT.skip 7 rfl (by kernel_rfl) rfl rfl (WT.skip 8 rfl (by kernel_rfl) rfl rfl (WT.skip 9 rfl (by kernel_rfl) rfl rfl (WT.skip 10 rfl (by kernel_rfl) rfl rfl ?_)))))))
    refine WT.skip 11 rfl (by kernel_rfl) rfl rfl (WT.skip 12 rfl (by kernel_rfl) rfl rfl (WT.skip 13 rfl (by kernel_rfl) rfl rfl (WT.pure 14 rfl (by kernel_rfl) (fun w' => (run_pickF rfl)) rfl rfl (WT.done (by kernel_rfl) (W.condF rfl (W.exit (W.seq ?_)))))))
    refine W.seq (W.region (WL.val run_move rfl rfl (WL.val run_move rfl rfl (WL.val (run_gtr rfl rfl) rfl rfl (WL.nil ?_)))))
    refine W.condIf rfl (fun c48 => ?_) (fun c48 => ?_)
    ·
     refine W.exit (W.seq ?_)
     refine W.draw Tryz.follows h (fun w h => ?_)
     refine WT.pure 0 rfl (by kernel_rfl) (fun w' => run_move) rfl rfl (WT.pure 1 rfl (by kernel_rfl) (fun w' => run_move) rfl rfl (WT.pure 2 rfl (by kernel_rfl) (fun w' => run_move) rfl rfl (WT.pure 3 rfl (by kernel_rfl) (fun w' => run_move) rfl rfl (WT.pure 4 rfl (by kernel_rfl) (fun w' => run_move) rfl rfl (WT.pure 5 rfl (by kernel_rfl) (fun w' => run_move) rfl rfl (WT.pure 6 rfl (by kernel_rfl) (fun w' => (run_indexAddr underlying129 sizeOf23 rfl rfl (by omega) (by omega))) rfl rfl (WT.load1 7 rfl (by kernel_rfl) isAgg23 rfl (RowU.cellZ h (by omega) (by omega)) rfl rfl ?_)))))))
     refine WT.pure 8 rfl (by kernel_rfl) (fun w' => run_move) rfl rfl (WT.pure 9 rfl (by kernel_rfl) (fun w' => run_move) rfl rfl (WT.pure 10 rfl (by kernel_rfl) (fun w' => (run_indexAddr underlying129 sizeOf23 rfl rfl (by omega) (by omega))) rfl rfl (WT.load1 11 rfl (by kernel_rfl) isAgg23 rfl (RowU.cellZ h (by omega) (by omega)) rfl rfl (WT.pure 12 rfl (by kernel_rfl) (fun w' => (run_indexAddr underlying129 sizeOf23 rfl rfl (by omega) (by omega))) rfl rfl (WT.eff 13 [false, false] rfl (by kernel_rfl) (by kernel_rfl) (eff_setRK (RowU.cellQ (i := k) h (by omega) (by omega)) h sizeOf23 rfl rfl (by omega) (by omega) (RowU.cellQ h (by omega) (by omega))) rfl rfl ?_)))))
     rintro _ w ⟨hqK, h⟩
     refine ⟨trivial, ?_⟩
     refine WT.pure 14 rfl (by kernel_rfl) (fun w' => (run_indexAddr underlying129 sizeOf23 rfl rfl (by omega) (by omega))) rfl rfl (WT.eff 15 [] rfl (by kernel_rfl) (by kernel_rfl) (eff_setR h sizeOf23 rfl rfl (by omega) (by omega) hqK) rfl rfl ?_)
     rintro _ w h
     refine ⟨trivial, ?_⟩
     refine WT.done (by kernel_rfl) (W.seq (W.region (WL.val run_move rfl rfl (WL.val run_assign rfl rfl (WL.val run_assign rfl rfl (WL.nil (W.ret ?_)))))))
     refine bodyQ.r2 (v1 := .int .i64 _) (v2 := .bool _) results159 rfl rfl ?_
     exact ⟨_, _, by omega, by omega, rfl, h⟩
    refine W.skip (W.seq ?_)
    refine W.draw Tryz.follows h (fun w h => ?_)
    refine WT.pure 0 rfl (by kernel_rfl) (fun w' => run_move) rfl rfl (WT.pure 1 rfl (by kernel_rfl) (fun w' => run_move) rfl rfl (WT.pure 2 rfl (by kernel_rfl) (fun w' => run_move) rfl rfl (WT.pure 3 rfl (by kernel_rfl) (fun w' => run_move) rfl rfl (WT.pure 4 rfl (by kernel_rfl) (fun w' => run_move) rfl rfl (WT.pure 5 rfl (by kernel_rfl) (fun w' => run_move) rfl rfl (WT.pure 6 rfl (by kernel_rfl) (fun w' => (run_indexAddr underlying129 sizeOf23 rfl rfl (by omega) (by omega))) rfl rfl (WT.load1 7 rfl (by kernel_rfl) isAgg23 rfl (RowU.cellZ h (by omega) (by omega)) rfl rfl ?_)))))))
    refine WT.pure 8 rfl (by kernel_rfl) (fun w' => run_move) rfl rfl (WT.pure 9 rfl (by kernel_rfl) (fun w' => run_move) rfl rfl (WT.pure 10 rfl (by kernel_rfl) (fun w' => (run_indexAddr underlying129 sizeOf23 rfl rfl (by omega) (by omega))) rfl rfl (WT.load1 11 rfl (by kernel_rfl) isAgg23 rfl (RowU.cellZ h (by omega) (by omega)) rfl rfl (WT.pure 12 rfl (by kernel_rfl) (fun w' => (run_indexAddr underlying129 sizeOf23 rfl rfl (by omega) (by omega))) rfl rfl (WT.eff 13 [false, false] rfl (by kernel_rfl) (by kernel_rfl) (eff_setRK (RowU.cellQ (i := i) h (by omega) (by omega)) h sizeOf23 rfl rfl (by omega) (by omega) (RowU.cellQ h (by omega) (by omega))) rfl rfl ?_)))))
    rintro _ w ⟨hqK, h⟩
    refine ⟨trivial, ?_⟩
    refine WT.pure 14 rfl (by kernel_rfl) (fun w' => (run_indexAddr underlying129 sizeOf23 rfl rfl (by omega) (by omega))) rfl rfl (WT.eff 15 [] rfl (by kernel_rfl) (by kernel_rfl) (eff_setR h sizeOf23 rfl rfl (by omega) (by omega) hqK) rfl rfl ?_)
    rintro _ w h
    refine ⟨trivial, ?_⟩
    refine WT.done (by kernel_rfl) (W.seq (W.region (WL.val run_move rfl rfl (WL.val (run_add rfl rfl (by omega) (by omega)) rfl rfl (WL.val run_assign rfl rfl (WL.nil (W.region ?_)))))))
    refine WL.val run_move rfl rfl (WL.val (run_sub rfl rfl (by omega) (by omega)) rfl rfl (WL.val run_assign rfl rfl (WL.nil ?_)))
    exact ⟨(i + 1, k - 1), ⟨by (try dsimp only); omega, _, mkE_of ⟨rfl, rfl, rfl, rfl, trivial⟩, h⟩, by show (k - 1 + 1 - (i + 1)).toNat < (j0 + 1 - i0).toNat; omega⟩
   refine WT.pure 3 rfl (by kernel_rfl) (fun w' => run_move) rfl rfl (WT.skip 4 rfl (by kernel_rfl) rfl rfl (WT.skip 5 rfl (by kernel_rfl) rfl rfl (WT.skip 6 rfl (by kernel_rfl) rfl rfl (WT.skip 7 rfl (by kernel_rfl) rfl rfl (WT.skip 8 rfl (by kernel_rfl) rfl rfl (WT.skip 9 rfl (by kernel_rfl) rfl rfl (WT.skip 10 rfl (by kernel_rfl) rfl rfl ?_)))))))
   refine WT.skip 11 rfl (by kernel_rfl) rfl rfl (WT.skip 12 rfl (by kernel_rfl) rfl rfl (WT.pure 13 rfl (by kernel_rfl) (fun w' => (run_pickF rfl)) rfl rfl (WT.done (by kernel_rfl) (W.condF rfl (W.exit (W.seq (W.block ?_)))))))
   refine W.loop (fun (s : Int) env w => (a ≤ s ∧ s ≤ j0 ∧ (i ≤ s + 1 ∨ s = j0)) ∧ ∃ jk, env = mkE jk [(0, .slice (some ⟨bd, od, none⟩) n cp), (1, .int .i64 a), (10, .int .i64 i), (11, .int .i64 s)] ∧ On W0 (RowU Q (.slice (some ⟨bd, od, none⟩) n cp) n :: L) w) (fun s => (s + 1 - i).toNat) (j0) ?_ ?_
   · exact ⟨by (try dsimp only); omega, _, mkE_of ⟨rfl, rfl, rfl, rfl, trivial⟩, h⟩
   rintro k env w ⟨hI14, jk, rfl, h⟩
   refine W.seq (W.seq ?_)
   refine W.draw Tryz.follows h (fun w h => ?_)
   refine WT.pure 0 rfl (by kernel_rfl) (fun w' => run_move) rfl rfl (WT.pure 1 rfl (by kernel_rfl) (fun w' => run_move) rfl rfl ?_)
   refine WT.dec 2 rfl (by kernel_rfl) (fun w' => (run_leq rfl rfl)) rfl rfl (fun c117 => ?_) (fun c117 => ?_)
   ·
    refine WT.pure 3 rfl (by kernel_rfl) (fun w' => run_move) rfl rfl (WT.pure 4 rfl (by kernel_rfl) (fun w' => run_move) rfl rfl (WT.pure 5 rfl (by kernel_rfl) (fun w' => run_move) rfl rfl (WT.pure 6 rfl (by kernel_rfl) (fun w' => (run_indexAddr underlying129 sizeOf23 rfl rfl (by omega) (by omega))) rfl rfl (WT.load1 7 rfl (by kernel_rfl) isAgg23 rfl (RowU.cellZ h (by omega) (by omega)) rfl rfl (WT.pure 8 rfl (by kernel_rfl) (fun w' => run_move) rfl rfl (WT.pure 9 rfl (by kernel_rfl) (fun w' => run_move) rfl rfl (WT.pure 10 rfl (by kernel_rfl) (fun w' => (run_indexAddr underlying129 sizeOf23 rfl rfl (by omega) (by omega))) rfl rfl ?_)))))))
    refine WT.load1 11 rfl (by kernel_rfl) isAgg23 rfl (RowU.cellZ h (by omega) (by omega)) rfl rfl (WT.eff 12 [false, false] rfl (by kernel_rfl) (by kernel_rfl) (eff_call call157 (less_ok h)) rfl rfl ?_)
    rintro _ w ⟨⟨b127, rfl⟩, h⟩
    refine ⟨trivial, ?_⟩
    refine WT.pure 13 rfl (by kernel_rfl) (fun w' => (run_not rfl)) rfl rfl (WT.pure 14 rfl (by kernel_rfl) (fun w' => (run_pickT rfl)) rfl rfl (WT.done (by kernel_rfl) ?_))
    refine W.condB rfl (fun c42 => ?_) (fun c42 => ?_)
    ·
     refine W.skip (W.block (W.region (WL.val run_move rfl rfl (WL.val (run_sub rfl rfl (by omega) (by omega)) rfl rfl (WL.val run_assign rfl rfl (WL.nil ?_))))))
     exact ⟨k - 1, ⟨by (try dsimp only); omega, _, mkE_of ⟨rfl, rfl, rfl, rfl, trivial⟩, h⟩, by show (k - 1 + 1 - i).toNat < (k + 1 - i).toNat; omega⟩
    refine W.exit (W.seq (W.seq (W.region (WL.val run_move rfl rfl (WL.val run_move rfl rfl (WL.val (run_gtr rfl rfl) rfl rfl (WL.nil ?_)))))))
    refine W.condIf rfl (fun c48 => ?_) (fun c48 => ?_)
    ·
     refine W.exit (W.seq ?_)
     refine W.draw Tryz.follows h (fun w h => ?_)
     refine WT.pure 0 rfl (by kernel_rfl) (fun w' => run_move) rfl rfl (WT.pure 1 rfl (by kernel_rfl) (fun w' => run_move) rfl rfl (WT.pure 2 rfl (by kernel_rfl) (fun w' => run_move) rfl rfl (WT.pure 3 rfl (by kernel_rfl) (fun w' => run_move) rfl rfl (WT.pure 4 rfl (by kernel_rfl) (fun w' => run_move) rfl rfl (WT.pure 5 rfl (by kernel_rfl) (fun w' => run_move) rfl rfl (WT.pure 6 rfl (by kernel_rfl) (fun w' => (run_indexAddr underlying129 sizeOf23 rfl rfl (by omega) (by omega))) rfl rfl (WT.load1 7 rfl (by kernel_rfl) isAgg23 rfl (RowU.cellZ h (by omega) (by omega)) rfl rfl ?_)))))))
     refine WT.pure 8 rfl (by kernel_rfl) (fun w' => run_move) rfl rfl (WT.pure 9 rfl (by kernel_rfl) (fun w' => run_move) rfl rfl (WT.pure 10 rfl (by kernel_rfl) (fun w' => (run_indexAddr underlying129 sizeOf23 rfl rfl (by omega) (by omega))) rfl rfl (WT.load1 11 rfl (by kernel_rfl) isAgg23 rfl (RowU.cellZ h (by omega) (by omega)) rfl rfl (WT.pure 12 rfl (by kernel_rfl) (fun w' => (run_indexAddr underlying129 sizeOf23 rfl rfl (by omega) (by omega))) rfl rfl (WT.eff 13 [false, false] rfl (by kernel_rfl) (by kernel_rfl) (eff_setRK (RowU.cellQ (i := k) h (by omega) (by omega)) h sizeOf23 rfl rfl (by omega) (by omega) (RowU.cellQ h (by omega) (by omega))) rfl rfl ?_)))))
     rintro _ w ⟨hqK, h⟩
     refine ⟨trivial, ?_⟩
     refine WT.pure 14 rfl (by kernel_rfl) (fun w' => (run_indexAddr underlying129 sizeOf23 rfl rfl (by omega) (by omega))) rfl rfl (WT.eff 15 [] rfl (by kernel_rfl) (by kernel_rfl) (eff_setR h sizeOf23 rfl rfl (by omega) (by omega) hqK) rfl rfl ?_)
     rintro _ w h
     refine ⟨trivial, ?_⟩
     refine WT.done (by kernel_rfl) (W.seq (W.region (WL.val run_move rfl rfl (WL.val run_assign rfl rfl (WL.val run_assign rfl rfl (WL.nil (W.ret ?_)))))))
     refine bodyQ.r2 (v1 := .int .i64 _) (v2 := .bool _) results159 rfl rfl ?_
     exact ⟨_, _, by omega, by omega, rfl, h⟩
    refine W.skip (W.seq ?_)
    refine W.draw Tryz.follows h (fun w h => ?_)
    refine WT.pure 0 rfl (by kernel_rfl) (fun w' => run_move) rfl rfl (WT.pure 1 rfl (by kernel_rfl) (fun w' => run_move) rfl rfl (WT.pure 2 rfl (by kernel_rfl) (fun w' => run_move) rfl rfl (WT.pure 3 rfl (by kernel_rfl) (fun w' => run_move) rfl rfl (WT.pure 4 rfl (by kernel_rfl) (fun w' => run_move) rfl rfl (WT.pure 5 rfl (by kernel_rfl) (fun w' => run_move) rfl rfl (WT.pure 6 rfl (by kernel_rfl) (fun w' => (run_indexAddr underlying129 sizeOf23 rfl rfl (by omega) (by omega))) rfl rfl (WT.load1 7 rfl (by kernel_rfl) isAgg23 rfl (RowU.cellZ h (by omega) (by omega)) rfl rfl ?_)))))))
    refine WT.pure 8 rfl (by kernel_rfl) (fun w' => run_move) rfl rfl (WT.pure 9 rfl (by kernel_rfl) (fun w' => run_move) rfl rfl (WT.pure 10 rfl (by kernel_rfl) (fun w' => (run_indexAddr underlying129 sizeOf23 rfl rfl (by omega) (by omega))) rfl rfl (WT.load1 11 rfl (by kernel_rfl) isAgg23 rfl (RowU.cellZ h (by omega) (by omega)) rfl rfl (WT.pure 12 rfl (by kernel_rfl) (fun w' => (run_indexAddr underlying129 sizeOf23 rfl rfl (by omega) (by omega))) rfl rfl (WT.eff 13 [false, false] rfl (by kernel_rfl) (by kernel_rfl) (eff_setRK (RowU.cellQ (i := i) h (by omega) (by omega)) h sizeOf23 rfl rfl (by omega) (by omega) (RowU.cellQ h (by omega) (by omega))) rfl rfl ?_)))))
    rintro _ w ⟨hqK, h⟩
    refine ⟨trivial, ?_⟩
    refine WT.pure 14 rfl (by kernel_rfl) (fun w' => (run_indexAddr underlying129 sizeOf23 rfl rfl (by omega) (by omega))) rfl rfl (WT.eff 15 [] rfl (by kernel_rfl) (by kernel_rfl) (eff_setR h sizeOf23 rfl rfl (by omega) (by omega) hqK) rfl rfl ?_)
    rintro _ w h
    refine ⟨trivial, ?_⟩
    refine WT.done (by kernel_rfl) (W.seq (W.region (WL.val run_move rfl rfl (WL.val (run_add rfl rfl (by omega) (by omega)) rfl rfl (WL.val run_assign rfl rfl (WL.nil (W.region ?_)))))))
    refine WL.val run_move rfl rfl (WL.val (run_sub rfl rfl (by omega) (by omega)) rfl rfl (WL.val run_assign rfl rfl (WL.nil ?_)))
    exact ⟨(i + 1, k - 1), ⟨by (try dsimp only); omega, _, mkE_of ⟨rfl, rfl, rfl, rfl, trivial⟩, h⟩, by show (k - 1 + 1 - (i + 1)).toNat < (j0 + 1 - i0).toNat; omega⟩
   refine WT.pure 3 rfl (by kernel_rfl) (fun w' => run_move) rfl rfl (WT.skip 4 rfl (by kernel_rfl) rfl rfl (WT.skip 5 rfl (by kernel_rfl) rfl rfl (WT.skip 6 rfl (by kernel_rfl) rfl rfl (WT.skip 7 rfl (by kernel_rfl) rfl rfl (WT.skip 8 rfl (by kernel_rfl) rfl rfl (WT.skip 9 rfl (by kernel_rfl) rfl rfl (WT.skip 10 rfl (by kernel_rfl) rfl rfl ?_)))))))
   refine WT.skip 11 rfl (by kernel_rfl) rfl rfl (WT.skip 12 rfl (by kernel_rfl) rfl rfl (WT.skip 13 rfl (by kernel_rfl) rfl rfl (WT.pure 14 rfl (by kernel_rfl) (fun w' => (run_pickF rfl)) rfl rfl (WT.done (by kernel_rfl) (W.condF rfl (W.exit (W.seq ?_)))))))
   refine W.seq (W.region (WL.val run_move rfl rfl (WL.val run_move rfl rfl (WL.val (run_gtr rfl rfl) rfl rfl (WL.nil ?_)))))
   refine W.condIf rfl (fun c48 => ?_) (fun c48 => ?_)
   ·
    refine W.exit (W.seq ?_)
    refine W.draw Tryz.follows h (fun w h => ?_)
    refine WT.pure 0 rfl (by kernel_rfl) (fun w' => run_move) rfl rfl (WT.pure 1 rfl (by kernel_rfl) (fun w' => run_move) rfl rfl (WT.pure 2 rfl (by kernel_rfl) (fun w' => run_move) rfl rfl (WT.pure 3 rfl (by kernel_rfl) (fun w' => run_move) rfl rfl (WT.pure 4 rfl (by kernel_rfl) (fun w' => run_move) rfl rfl (WT.pure 5 rfl (by kernel_rfl) (fun w' => run_move) rfl rfl (WT.pure 6 rfl (by kernel_rfl) (fun w' => (run_indexAddr underlying129 sizeOf23 rfl rfl (by omega) (by omega))) rfl rfl (WT.load1 7 rfl (by kernel_rfl) isAgg23 rfl (RowU.cellZ h (by omega) (by omega)) rfl rfl ?_)))))))
    refine WT.pure 8 rfl (by kernel_rfl) (fun w' => run_move) rfl rfl (WT.pure 9 rfl (by kernel_rfl) (fun w' => run_move) rfl rfl (WT.pure 10 rfl (by kernel_rfl) (fun w' => (run_indexAddr underlying129 sizeOf23 rfl rfl (by omega) (by omega))) rfl rfl (WT.load1 11 rfl (by kernel_rfl) isAgg23 rfl (RowU.cellZ h (by omega) (by omega)) rfl rfl (WT.pure 12 rfl (by kernel_rfl) (fun w' => (run_indexAddr underlying129 sizeOf23 rfl rfl (by omega) (by omega))) rfl rfl (WT.eff 13 [false, false] rfl (by kernel_rfl) (by kernel_rfl) (eff_setRK (RowU.cellQ (i := k) h (by omega) (by omega)) h sizeOf23 rfl rfl (by omega) (by omega) (RowU.cellQ h (by omega) (by omega))) rfl rfl ?_)))))
    rintro _ w ⟨hqK, h⟩
    refine ⟨trivial, ?_⟩
    refine WT.pure 14 rfl (by kernel_rfl) (fun w' => (run_indexAddr underlying129 sizeOf23 rfl rfl (by omega) (by omega))) rfl rfl (WT.eff 15 [] rfl (by kernel_rfl) (by kernel_rfl) (eff_setR h sizeOf23 rfl rfl (by omega) (by omega) hqK) rfl rfl ?_)
    rintro _ w h
    refine ⟨trivial, ?_⟩
    refine WT.done (by kernel_rfl) (W.seq (W.region (WL.val run_move rfl rfl (WL.val run_assign rfl rfl (WL.val run_assign rfl rfl (WL.nil (W.ret ?_)))))))
    refine bodyQ.r2 (v1 := .int .i64 _) (v2 := .bool _) results159 rfl rfl ?_
    exact ⟨_, _, by omega, by omega, rfl, h⟩
   refine W.skip (W.seq ?_)
   refine W.draw Tryz.follows h (fun w h => ?_)
   refine WT.pure 0 rfl (by kernel_rfl) (fun w' => run_move) rfl rfl (WT.pure 1 rfl (by kernel_rfl) (fun w' => run_move) rfl rfl (WT.pure 2 rfl (by kernel_rfl) (fun w' => run_move) rfl rfl (WT.pure 3 rfl (by kernel_rfl) (fun w' => run_move) rfl rfl (WT.pure 4 rfl (by kernel_rfl) (fun w' => run_move) rfl rfl (WT.pure 5 rfl (by kernel_rfl) (fun w' => run_move) rfl rfl (WT.pure 6 rfl (by kernel_rfl) (fun w' => (run_indexAddr underlying129 sizeOf23 rfl rfl (by omega) (by omega))) rfl rfl (WT.load1 7 rfl (by kernel_rfl) isAgg23 rfl (RowU.cellZ h (by omega) (by omega)) rfl rfl ?_)))))))
   refine WT.pure 8 rfl (by kernel_rfl) (fun w' => run_move) rfl rfl (WT.pure 9 rfl (by kernel_rfl) (fun w' => run_move) rfl rfl (WT.pure 10 rfl (by kernel_rfl) (fun w' => (run_indexAddr underlying129 sizeOf23 rfl rfl (by omega) (by omega))) rfl rfl (WT.load1 11 rfl (by kernel_rfl) isAgg23 rfl (RowU.cellZ h (by omega) (by omega)) rfl rfl (WT.pure 12 rfl (by kernel_rfl) (fun w' => (run_indexAddr underlying129 sizeOf23 rfl rfl (by omega) (by omega))) rfl rfl (WT.eff 13 [false, false] rfl (by kernel_rfl) (by kernel_rfl) (eff_setRK (RowU.cellQ (i := i) h (by omega) (by omega)) h sizeOf23 rfl rfl (by omega) (by omega) (RowU.cellQ h (by omega) (by omega))) rfl rfl ?_)))))
   rintro _ w ⟨hqK, h⟩
   refine ⟨trivial, ?_⟩
   refine WT.pure 14 rfl (by kernel_rfl) (fun w' => (run_indexAddr underlying129 sizeOf23 rfl rfl (by omega) (by omega))) rfl rfl (WT.eff 15 [] rfl (by kernel_rfl) (by kernel_rfl) (eff_setR h sizeOf23 rfl rfl (by omega) (by omega) hqK) rfl rfl ?_)
   rintro _ w h
   refine ⟨trivial, ?_⟩
   refine WT.done (by kernel_rfl) (W.seq (W.region (WL.val run_move rfl rfl (WL.val (run_add rfl rfl (by omega) (by omega)) rfl rfl (WL.val run_assign rfl rfl (WL.nil (W.region ?_)))))))
   refine WL.val run_move rfl rfl (WL.val (run_sub rfl rfl (by omega) (by omega)) rfl rfl (WL.val run_assign rfl rfl (WL.nil ?_)))
   exact ⟨(i + 1, k - 1), ⟨by (try dsimp only); omega, _, mkE_of ⟨rfl, rfl, rfl, rfl, trivial⟩, h⟩, by show (k - 1 + 1 - (i + 1)).toNat < (j0 + 1 - i0).toNat; omega⟩
  refine WT.pure 3 rfl (by kernel_rfl) (fun w' => run_move) rfl rfl (WT.skip 4 rfl (by kernel_rfl) rfl rfl (WT.skip 5 rfl (by kernel_rfl) rfl rfl (WT.skip 6 rfl (by kernel_rfl) rfl rfl (WT.skip 7 rfl (by kernel_rfl) rfl rfl (WT.skip 8 rfl (by kernel_rfl) rfl rfl (WT.skip 9 rfl (by kernel_rfl) rfl rfl (WT.skip 10 rfl (by kernel_rfl) rfl rfl ?_)))))))
  refine WT.skip 11 rfl (by kernel_rfl) rfl rfl (WT.skip 12 rfl (by kernel_rfl) rfl rfl (WT.pure 13 rfl (by kernel_rfl) (fun w' => (run_pickF rfl)) rfl rfl (WT.done (by kernel_rfl) (W.condF rfl (W.exit (W.seq (W.block ?_)))))))
  refine W.loop (fun (s : Int) env w => (a ≤ s ∧ s ≤ (b - 1) ∧ (i ≤ s + 1 ∨ s = (b - 1))) ∧ ∃ jk, env = mkE jk [(0, .slice (some ⟨bd, od, none⟩) n cp), (1, .int .i64 a), (10, .int .i64 i), (11, .int .i64 s)] ∧ On W0 (RowU Q (.slice (some ⟨bd, od, none⟩) n cp) n :: L) w) (fun s => (s + 1 - i).toNat) ((b - 1)) ?_ ?_
  · exact ⟨by (try dsimp only); omega, _, mkE_of ⟨rfl, rfl, rfl, rfl, trivial⟩, h⟩
  rintro k env w ⟨hI11, jk, rfl, h⟩
  refine W.seq (W.seq ?_)
  refine W.draw Tryz.follows h (fun w h => ?_)
  refine WT.pure 0 rfl (by kernel_rfl) (fun w' => run_move) rfl rfl (WT.pure 1 rfl (by kernel_rfl) (fun w' => run_move) rfl rfl ?_)
  refine WT.dec 2 rfl (by kernel_rfl) (fun w' => (run_leq rfl rfl)) rfl rfl (fun c48 => ?_) (fun c48 => ?_)
  ·
   refine WT.pure 3 rfl (by kernel_rfl) (fun w' => run_move) rfl rfl (WT.pure 4 rfl (by kernel_rfl) (fun w' => run_move) rfl rfl (WT.pure 5 rfl (by kernel_rfl) (fun w' => run_move) rfl rfl (WT.pure 6 rfl (by kernel_rfl) (fun w' => (run_indexAddr underlying129 sizeOf23 rfl rfl (by omega) (by omega))) rfl rfl (WT.load1 7 rfl (by kernel_rfl) isAgg23 rfl (RowU.cellZ h (by omega) (by omega)) rfl rfl (WT.pure 8 rfl (by kernel_rfl) (fun w' => run_move) rfl rfl (WT.pure 9 rfl (by kernel_rfl) (fun w' => run_move) rfl rfl (WT.pure 10 rfl (by kernel_rfl) (fun w' => (run_indexAddr underlying129 sizeOf23 rfl rfl (by omega) (by omega))) rfl rfl ?_)))))))
   refine WT.load1 11 rfl (by kernel_rfl) isAgg23 rfl (RowU.cellZ h (by omega) (by omega)) rfl rfl (WT.eff 12 [false, false] rfl (by kernel_rfl) (by kernel_rfl) (eff_call call157 (less_ok h)) rfl rfl ?_)
   rintro _ w ⟨⟨b58, rfl⟩, h⟩
   refine ⟨trivial, ?_⟩
   refine WT.pure 13 rfl (by kernel_rfl) (fun w' => (run_not rfl)) rfl rfl (WT.pure 14 rfl (by kernel_rfl) (fun w' => (run_pickT rfl)) rfl rfl (WT.done (by kernel_rfl) ?_))
   refine W.condB rfl (fun c14 => ?_) (fun c14 => ?_)
   ·
    refine W.skip (W.block (W.region (WL.val run_move rfl rfl (WL.val (run_sub rfl rfl (by omega) (by omega)) rfl rfl (WL.val run_assign rfl rfl (WL.nil ?_))))))
    exact ⟨k - 1, ⟨by (try dsimp only); omega, _, mkE_of ⟨rfl, rfl, rfl, rfl, trivial⟩, h⟩, by show (k - 1 + 1 - i).toNat < (k + 1 - i).toNat; omega⟩
   refine W.exit (W.seq (W.seq (W.region (WL.val run_move rfl rfl (WL.val run_move rfl rfl (WL.val (run_gtr rfl rfl) rfl rfl (WL.nil ?_)))))))
   refine W.condIf rfl (fun c20 => ?_) (fun c20 => ?_)
   ·
    refine W.seq ?_
    refine W.draw Tryz.follows h (fun w h => ?_)
    refine WT.pure 0 rfl (by kernel_rfl) (fun w' => run_move) rfl rfl (WT.pure 1 rfl (by kernel_rfl) (fun w' => run_move) rfl rfl (WT.pure 2 rfl (by kernel_rfl) (fun w' => run_move) rfl rfl (WT.pure 3 rfl (by kernel_rfl) (fun w' => run_move) rfl rfl (WT.pure 4 rfl (by kernel_rfl) (fun w' => run_move) rfl rfl (WT.pure 5 rfl (by kernel_rfl) (fun w' => run_move) rfl rfl (WT.pure 6 rfl (by kernel_rfl) (fun w' => (run_indexAddr underlying129 sizeOf23 rfl rfl (by omega) (by omega))) rfl rfl (WT.load1 7 rfl (by kernel_rfl) isAgg23 rfl (RowU.cellZ h (by omega) (by omega)) rfl rfl ?_)))))))
    refine WT.pure 8 rfl (by kernel_rfl) (fun w' => run_move) rfl rfl (WT.pure 9 rfl (by kernel_rfl) (fun w' => run_move) rfl rfl (WT.pure 10 rfl (by kernel_rfl) (fun w' => (run_indexAddr underlying129 sizeOf23 rfl rfl (by omega) (by omega))) rfl rfl (WT.load1 11 rfl (by kernel_rfl) isAgg23 rfl (RowU.cellZ h (by omega) (by omega)) rfl rfl (WT.pure 12 rfl (by kernel_rfl) (fun w' => (run_indexAddr underlying129 sizeOf23 rfl rfl (by omega) (by omega))) rfl rfl (WT.eff 13 [false, false] rfl (by kernel_rfl) (by kernel_rfl) (eff_setRK (RowU.cellQ (i := k) h (by omega) (by omega)) h sizeOf23 rfl rfl (by omega) (by omega) (RowU.cellQ h (by omega) (by omega))) rfl rfl ?_)))))
    rintro _ w ⟨hqK, h⟩
    refine ⟨trivial, ?_⟩
    refine WT.pure 14 rfl (by kernel_rfl) (fun w' => (run_indexAddr underlying129 sizeOf23 rfl rfl (by omega) (by omega))) rfl rfl (WT.eff 15 [] rfl (by kernel_rfl) (by kernel_rfl) (eff_setR h sizeOf23 rfl rfl (by omega) (by omega) hqK) rfl rfl ?_)
    rintro _ w h
    refine ⟨trivial, ?_⟩
    refine WT.done (by kernel_rfl) (W.seq (W.region (WL.val run_move rfl rfl (WL.val run_assign rfl rfl (WL.val run_assign rfl rfl (WL.nil (W.ret ?_)))))))
    refine bodyQ.r2 (v1 := .int .i64 _) (v2 := .bool _) results159 rfl rfl ?_
    exact ⟨_, _, by omega, by omega, rfl, h⟩
   refine W.skip (W.seq ?_)
   refine W.draw Tryz.follows h (fun w h => ?_)
   refine WT.pure 0 rfl (by kernel_rfl) (fun w' => run_move) rfl rfl (WT.pure 1 rfl (by kernel_rfl) (fun w' => run_move) rfl rfl (WT.pure 2 rfl (by kernel_rfl) (fun w' => run_move) rfl rfl (WT.pure 3 rfl (by kernel_rfl) (fun w' => run_move) rfl rfl (WT.pure 4 rfl (by kernel_rfl) (fun w' => run_move) rfl rfl (WT.pure 5 rfl (by kernel_rfl) (fun w' => run_move) rfl rfl (WT.pure 6 rfl (by kernel_rfl) (fun w' => (run_indexAddr underlying129 sizeOf23 rfl rfl (by omega) (by omega))) rfl rfl (WT.load1 7 rfl (by kernel_rfl) isAgg23 rfl (RowU.cellZ h (by omega) (by omega)) rfl rfl ?_)))))))
   refine WT.pure 8 rfl (by kernel_rfl) (fun w' => run_move) rfl rfl (WT.pure 9 rfl (by kernel_rfl) (fun w' => run_move) rfl rfl (WT.pure 10 rfl (by kernel_rfl) (fun w' => (run_indexAddr underlying129 sizeOf23 rfl rfl (by omega) (by omega))) rfl rfl (WT.load1 11 rfl (by kernel_rfl) isAgg23 rfl (RowU.cellZ h (by omega) (by omega)) rfl rfl (WT.pure 12 rfl (by kernel_rfl) (fun w' => (run_indexAddr underlying129 sizeOf23 rfl rfl (by omega) (by omega))) rfl rfl (WT.eff 13 [false, false] rfl (by kernel_rfl) (by kernel_rfl) (eff_setRK (RowU.cellQ (i := i) h (by omega) (by omega)) h sizeOf23 rfl rfl (by omega) (by omega) (RowU.cellQ h (by omega) (by omega))) rfl rfl ?_)))))
   rintro _ w ⟨hqK, h⟩
   refine ⟨trivial, ?_⟩
   refine WT.pure 14 rfl (by kernel_rfl) (fun w' => (run_indexAddr underlying129 sizeOf23 rfl rfl (by omega) (by omega))) rfl rfl (WT.eff 15 [] rfl (by kernel_rfl) (by kernel_rfl) (eff_setR h sizeOf23 rfl rfl (by omega) (by omega) hqK) rfl rfl ?_)
   rintro _ w h
   refine ⟨trivial, ?_⟩
   refine WT.done (by kernel_rfl) (W.seq (W.region (WL.val run_move rfl rfl (WL.val (run_add rfl rfl (by omega) (by omega)) rfl rfl (WL.val run_assign rfl rfl (WL.nil (W.seq ?_)))))))
   refine W.region (WL.val run_move rfl rfl (WL.val (run_sub rfl rfl (by omega) (by omega)) rfl rfl (WL.val run_assign rfl rfl (WL.nil (W.seq (W.block ?_))))))
   refine W.loop (fun (s : Int × Int) env w => (a + 1 ≤ s.1 ∧ s.1 ≤ b ∧ s.1 ≤ s.2 + 2 ∧ a ≤ s.2 ∧ s.2 < b) ∧ ∃ jk, env = mkE jk [(0, .slice (some ⟨bd, od, none⟩) n cp), (1, .int .i64 a), (10, .int .i64 s.1), (11, .int .i64 s.2)] ∧ On W0 (RowU Q (.slice (some ⟨bd, od, none⟩) n cp) n :: L) w) (fun s => (s.2 + 1 - s.1).toNat) ((i + 1, k - 1)) ?_ ?_
   · exact ⟨by (try dsimp only); omega, _, mkE_of ⟨rfl, rfl, rfl, rfl, trivial⟩, h⟩
   rintro ⟨i0, j0⟩ env w ⟨hI12, jk, rfl, h⟩
   try dsimp only at hI12
   refine W.block (W.seq (W.block ?_))
   refine W.loop (fun (s : Int) env w => (i0 ≤ s ∧ (s ≤ j0 + 1 ∨ s = i0)) ∧ ∃ jk, env = mkE jk [(0, .slice (some ⟨bd, od, none⟩) n cp), (1, .int .i64 a), (10, .int .i64 s), (11, .int .i64 j0)] ∧ On W0 (RowU Q (.slice (some ⟨bd, od, none⟩) n cp) n :: L) w) (fun s => (j0 + 1 - s).toNat) (i0) ?_ ?_
   · exact ⟨by (try dsimp only); omega, _, mkE_of ⟨rfl, rfl, rfl, rfl, trivial⟩, h⟩
   rintro i env w ⟨hI13, jk, rfl, h⟩
   refine W.seq (W.seq ?_)
   refine W.draw Tryz.follows h (fun w h => ?_)
   refine WT.pure 0 rfl (by kernel_rfl) (fun w' => run_move) rfl rfl (WT.pure 1 rfl (by kernel_rfl) (fun w' => run_move) rfl rfl ?_)
   refine WT.dec 2 rfl (by kernel_rfl) (fun w' => (run_leq rfl rfl)) rfl rfl (fun c101 => ?_) (fun c101 => ?_)
   ·
    refine WT.pure 3 rfl (by kernel_rfl) (fun w' => run_move) rfl rfl (WT.pure 4 rfl (by kernel_rfl) (fun w' => run_move) rfl rfl (WT.pure 5 rfl (by kernel_rfl) (fun w' => run_move) rfl rfl (WT.pure 6 rfl (by kernel_rfl) (fun w' => (run_indexAddr underlying129 sizeOf23 rfl rfl (by omega) (by omega))) rfl rfl (WT.load1 7 rfl (by kernel_rfl) isAgg23 rfl (RowU.cellZ h (by omega) (by omega)) rfl rfl (WT.pure 8 rfl (by kernel_rfl) (fun w' => run_move) rfl rfl (WT.pure 9 rfl (by kernel_rfl) (fun w' => run_move) rfl rfl (WT.pure 10 rfl (by kernel_rfl) (fun w' => (run_indexAddr underlying129 sizeOf23 rfl rfl (by omega) (by omega))) rfl rfl ?_)))))))
    refine WT.load1 11 rfl (by kernel_rfl) isAgg23 rfl (RowU.cellZ h (by omega) (by omega)) rfl rfl (WT.eff 12 [false, false] rfl (by kernel_rfl) (by kernel_rfl) (eff_call call157 (less_ok h)) rfl rfl ?_)
    rintro _ w ⟨⟨b111, rfl⟩, h⟩
    refine ⟨trivial, ?_⟩
    refine WT.pure 13 rfl (by kernel_rfl) (fun w' => (run_pickT rfl)) rfl rfl (WT.done (by kernel_rfl) ?_)
    refine W.condB rfl (fun c34 => ?_) (fun c34 => ?_)
    ·
     refine W.skip (W.block (W.region (WL.val run_move rfl rfl (WL.val (run_add rfl rfl (by omega) (by omega)) rfl rfl (WL.val run_assign rfl rfl (WL.nil ?_))))))
     exact ⟨i + 1, ⟨by (try dsimp only); omega, _, mkE_of ⟨rfl, rfl, rfl, rfl, trivial⟩, h⟩, by show (j0 + 1 - (i + 1)).toNat < (j0 + 1 - i).toNat; omega⟩
    refine W.exit (W.seq (W.block ?_))
    refine W.loop (fun (s : Int) env w => (a ≤ s ∧ s ≤ j0 ∧ (i ≤ s + 1 ∨ s = j0)) ∧ ∃ jk, env = mkE jk [(0, .slice (some ⟨bd, od, none⟩) n cp), (1, .int .i64 a), (10, .int .i64 i), (11, .int .i64 s)] ∧ On W0 (RowU Q (.slice (some ⟨bd, od, none⟩) n cp) n :: L) w) (fun s => (s + 1 - i).toNat) (j0) ?_ ?_
    · exact ⟨by (try dsimp only); omega, _, mkE_of ⟨rfl, rfl, rfl, rfl, trivial⟩, h⟩
    rintro k env w ⟨hI14, jk, rfl, h⟩
    refine W.seq (W.seq ?_)
    refine W.draw Tryz.follows h (fun w h => ?_)
    refine WT.pure 0 rfl (by kernel_rfl) (fun w' => run_move) rfl rfl (WT.pure 1 rfl (by kernel_rfl) (fun w' => run_move) rfl rfl ?_)
    refine WT.dec 2 rfl (by kernel_rfl) (fun w' => (run_leq rfl rfl)) rfl rfl (fun c117 => ?_) (fun c117 => ?_)
    ·
     refine WT.pure 3 rfl (by kernel_rfl) (fun w' => run_move) rfl rfl (WT.pure 4 rfl (by kernel_rfl) (fun w' => run_move) rfl rfl (WT.pure 5 rfl (by kernel_rfl) (fun w' => run_move) rfl rfl (WT.pure 6 rfl (by kernel_rfl) (fun w' => (run_indexAddr underlying129 sizeOf23 rfl rfl (by omega) (by omega))) rfl rfl (WT.load1 7 rfl (by kernel_rfl) isAgg23 rfl (RowU.cellZ h (by omega) (by omega)) rfl rfl (WT.pure 8 rfl (by kernel_rfl) (fun w' => run_move) rfl rfl (WT.pure 9 rfl (by kernel_rfl) (fun w' => run_move) rfl rfl (WT.pure 10 rfl (by kernel_rfl) (fun w' => (run_indexAddr underlying129 sizeOf23 rfl rfl (by omega) (by omega))) rfl rfl ?_)))))))
     refine WT.load1 11 rfl (by kernel_rfl) isAgg23 rfl (RowU.cellZ h (by omega) (by omega)) rfl rfl (WT.eff 12 [false, false] rfl (by kernel_rfl) (by kernel_rfl) (eff_call call157 (less_ok h)) rfl rfl ?_)
     rintro _ w ⟨⟨b127, rfl⟩, h⟩
     refine ⟨trivial, ?_⟩
     refine WT.pure 13 rfl (by kernel_rfl) (fun w' => (run_not rfl)) rfl rfl (WT.pure 14 rfl (by kernel_rfl) (fun w' => (run_pickT rfl)) rfl rfl (WT.done (by kernel_rfl) ?_))
     refine W.condB rfl (fun c42 => ?_) (fun c42 => ?_)
     ·
      refine W.skip (W.block (W.region (WL.val run_move rfl rfl (WL.val (run_sub rfl rfl (by omega) (by omega)) rfl rfl (WL.val run_assign rfl rfl (WL.nil ?_))))))
      exact ⟨k - 1, ⟨by (try dsimp only); omega, _, mkE_of ⟨rfl, rfl, rfl, rfl, trivial⟩, h⟩, by show (k - 1 + 1 - i).toNat < (k + 1 - i).toNat; omega⟩
     refine W.exit (W.seq (W.seq (W.region (WL.val run_move rfl rfl (WL.val run_move rfl rfl (WL.val (run_gtr rfl rfl) rfl rfl (WL.nil ?_)))))))
     refine W.condIf rfl (fun c48 => ?_) (fun c48 => ?_)
     ·
      refine W.exit (W.seq ?_)
      refine W.draw Tryz.follows h (fun w h => ?_)
      refine WT.pure 0 rfl (by kernel_rfl) (fun w' => run_move) rfl rfl (WT.pure 1 rfl (by kernel_rfl) (fun w' => run_move) rfl rfl (WT.pure 2 rfl (by kernel_rfl) (fun w' => run_move) rfl rfl (WT.pure 3 rfl (by kernel_rfl) (fun w' => run_move) rfl rfl (WT.pure 4 rfl (by kernel_rfl) (fun w' => run_move) rfl rfl (WT.pure 5 rfl (by kernel_rfl) (fun w' => run_move) rfl rfl (WT.pure 6 rfl (by kernel_rfl) (fun w' => (run_indexAddr underlying129 sizeOf23 rfl rfl (by omega) (by omega))) rfl rfl (WT.load1 7 rfl (by kernel_rfl) isAgg23 rfl (RowU.cellZ h (by omega) (by omega)) rfl rfl ?_)))))))
      refine WT.pure 8 rfl (by kernel_rfl) (fun w' => run_move) rfl rfl (WT.pure 9 rfl (by kernel_rfl) (fun w' => run_move) rfl rfl (WT.pure 10 rfl (by kernel_rfl) (fun w' => (run_indexAddr underlying129 sizeOf23 rfl rfl (by omega) (by omega))) rfl rfl (WT.load1 11 rfl (by kernel_rfl) isAgg23 rfl (RowU.cellZ h (by omega) (by omega)) rfl rfl (WT.pure 12 rfl (by kernel_rfl) (fun w' => (run_indexAddr underlying129 sizeOf23 rfl rfl (by omega) (by omega))) rfl rfl (WT.eff 13 [false, false] rfl (by kernel_rfl) (by kernel_rfl) (eff_setRK (RowU.cellQ (i := k) h (by omega) (by omega)) h sizeOf23 rfl rfl (by omega) (by omega) (RowU.cellQ h (by omega) (by omega))) rfl rfl ?_)))))
      rintro _ w ⟨hqK, h⟩
      refine ⟨trivial, ?_⟩
      refine WT.pure 14 rfl (by kernel_rfl) (fun w' => (run_indexAddr underlying129 sizeOf23 rfl rfl (by omega) (by omega))) rfl rfl (WT.eff 15 [] rfl (by kernel_rfl) (by kernel_rfl) (eff_setR h sizeOf23 rfl rfl (by omega) (by omega) hqK) rfl rfl ?_)
      rintro _ w h
      refine ⟨trivial, ?_⟩
      refine WT.done (by kernel_rfl) (W.seq (W.region (WL.val run_move rfl rfl (WL.val run_assign rfl rfl (WL.val run_assign rfl rfl (WL.nil (W.ret ?_)))))))
      refine bodyQ.r2 (v1 := .int .i64 _) (v2 := .bool _) results159 rfl rfl ?_
      exact ⟨_, _, by omega, by omega, rfl, h⟩
     refine W.skip (W.seq ?_)
     refine W.draw Tryz.follows h (fun w h => ?_)
     refine WT.pure 0 rfl (by kernel_rfl) (fun w' => run_move) rfl rfl (WT.pure 1 rfl (by kernel_rfl) (fun w' => run_move) rfl rfl (WT.pure 2 rfl (by kernel_rfl) (fun w' => run_move) rfl rfl (WT.pure 3 rfl (by kernel_rfl) (fun w' => run_move) rfl rfl (WT.pure 4 rfl (by kernel_rfl) (fun w' => run_move) rfl rfl (WT.pure 5 rfl (by kernel_rfl) (fun w' => run_move) rfl rfl (WT.pure 6 rfl (by kernel_rfl) (fun w' => (run_indexAddr underlying129 sizeOf23 rfl rfl (by omega) (by omega))) rfl rfl (WT.load1 7 rfl (by kernel_rfl) isAgg23 rfl (RowU.cellZ h (by omega) (by omega)) rfl rfl ?_)))))))
     refine WT.pure 8 rfl (by kernel_rfl) (fun w' => run_move) rfl rfl (WT.pure 9 rfl (by kernel_rfl) (fun w' => run_move) rfl rfl (WT.pure 10 rfl (by kernel_rfl) (fun w' => (run_indexAddr underlying129 sizeOf23 rfl rfl (by omega) (by omega))) rfl rfl (WT.load1 11 rfl (by kernel_rfl) isAgg23 rfl (RowU.cellZ h (by omega) (by omega)) rfl rfl (WT.pure 12 rfl (by kernel_rfl) (fun w' => (run_indexAddr underlying129 sizeOf23 rfl rfl (by omega) (by omega))) rfl rfl (WT.eff 13 [false, false] rfl (by kernel_rfl) (by kernel_rfl) (eff_setRK (RowU.cellQ (i := i) h (by omega) (by omega)) h sizeOf23 rfl rfl (by omega) (by omega) (RowU.cellQ h (by omega) (by omega))) rfl rfl ?_)))))
     rintro _ w ⟨hqK, h⟩
     refine ⟨trivial, ?_⟩
     refine WT.pure 14 rfl (by kernel_rfl) (fun w' => (run_indexAddr underlying129 sizeOf23 rfl rfl (by omega) (by omega))) rfl rfl (WT.eff 15 [] rfl (by kernel_rfl) (by kernel_rfl) (eff_setR h sizeOf23 rfl rfl (by omega) (by omega) hqK) rfl rfl ?_)
     rintro _ w h
     refine ⟨trivial, ?_⟩
     refine WT.done (by kernel_rfl) (W.seq (W.region (WL.val run_move rfl rfl (WL.val (run_add rfl rfl (by omega) (by omega)) rfl rfl (WL.val run_assign rfl rfl (WL.nil (W.region ?_)))))))
     refine WL.val run_move rfl rfl (WL.val (run_sub rfl rfl (by omega) (by omega)) rfl rfl (WL.val run_assign rfl rfl (WL.nil ?_)))
     exact ⟨(i + 1, k - 1), ⟨by (try dsimp only); omega, _, mkE_of ⟨rfl, rfl, rfl, rfl, trivial⟩, h⟩, by show (k - 1 + 1 - (i + 1)).toNat < (j0 + 1 - i0).toNat; omega⟩
    refine WT.pure 3 rfl (by kernel_rfl) (fun w' => run_move) rfl rfl (WT.skip 4 rfl (by kernel_rfl) rfl rfl (WT.skip 5 rfl (by kernel_rfl) rfl rfl (WT.skip 6 rfl (by kernel_rfl) rfl rfl (WT.skip 7 rfl (by kernel_rfl) rfl rfl (WT.skip 8 rfl (by kernel_rfl) rfl rfl (WT.skip 9 rfl (by kernel_rfl) rfl rfl (WT.skip 10 rfl (by kernel_rfl) rfl rfl ?_)))))))
    refine WT.skip 11 rfl (by kernel_rfl) rfl rfl (WT.skip 12 rfl (by kernel_rfl) rfl rfl (WT.skip 13 rfl (by kernel_rfl) rfl rfl (WT.pure 14 rfl (by kernel_rfl) (fun w' => (run_pickF rfl)) rfl rfl (WT.done (by kernel_rfl) (W.condF rfl (W.exit (W.seq ?_)))))))
    refine W.seq (W.region (WL.val run_move rfl rfl (WL.val run_move rfl rfl (WL.val (run_gtr rfl rfl) rfl rfl (WL.nil ?_)))))
    refine W.condIf rfl (fun c48 => ?_) (fun c48 => ?_)
    ·
     refine W.exit (W.seq ?_)
     refine W.draw Tryz.follows h (fun w h => ?_)
     refine WT.pure 0 rfl (by kernel_rfl) (fun w' => run_move) rfl rfl (WT.pure 1 rfl (by kernel_rfl) (fun w' => run_move) rfl rfl (WT.pure 2 rfl (by kernel_rfl) (fun w' => run_move) rfl rfl (WT.pure 3 rfl (by kernel_rfl) (fun w' => run_move) rfl rfl (WT.pure 4 rfl (by kernel_rfl) (fun w' => run_move) rfl rfl (WT.pure 5 rfl (by kernel_rfl) (fun w' => run_move) rfl rfl (WT.pure 6 rfl (by kernel_rfl) (fun w' => (run_indexAddr underlying129 sizeOf23 rfl rfl (by omega) (by omega))) rfl rfl (WT.load1 7 rfl (by kernel_rfl) isAgg23 rfl (RowU.cellZ h (by omega) (by omega)) rfl rfl ?_)))))))
     refine WT.pure 8 rfl (by kernel_rfl) (fun w' => run_move) rfl rfl (WT.pure 9 rfl (by kernel_rfl) (fun w' => run_move) rfl rfl (WT.pure 10 rfl (by kernel_rfl) (fun w' => (run_indexAddr underlying129 sizeOf23 rfl rfl (by omega) (by omega))) rfl rfl (WT.load1 11 rfl (by kernel_rfl) isAgg23 rfl (RowU.cellZ h (by omega) (by omega)) rfl rfl (WT.pure 12 rfl (by kernel_rfl) (fun w' => (run_indexAddr underlying129 sizeOf23 rfl rfl (by omega) (by omega))) rfl rfl (WT.eff 13 [false, false] rfl (by kernel_rfl) (by kernel_rfl) (eff_setRK (RowU.cellQ (i := k) h (by omega) (by omega)) h sizeOf23 rfl rfl (by omega) (by omega) (RowU.cellQ h (by omega) (by omega))) rfl rfl ?_)))))
     rintro _ w ⟨hqK, h⟩
     refine ⟨trivial, ?_⟩
     refine WT.pure 14 rfl (by kernel_rfl) (fun w' => (run_indexAddr underlying129 sizeOf23 rfl rfl (by omega) (by omega))) rfl rfl (WT.eff 15 [] rfl (by kernel_rfl) (by kernel_rfl) (eff_setR h sizeOf23 rfl rfl (by omega) (by omega) hqK) rfl rfl ?_)
     rintro _ w h
     refine ⟨trivial, ?_⟩
     refine WT.done (by kernel_rfl) (W.seq (W.region (WL.val run_move rfl rfl (WL.val run_assign rfl rfl (WL.val run_assign rfl rfl (WL.nil (W.ret ?_)))))))
     refine bodyQ.r2 (v1 := .int .i64 _) (v2 := .bool _) results159 rfl rfl ?_
     exact ⟨_, _, by omega, by omega, rfl, h⟩
    refine W.skip (W.seq ?_)
    refine W.draw Tryz.follows h (fun w h => ?_)
    refine WT.pure 0 rfl (by kernel_rfl) (fun w' => run_move) rfl rfl (WT.pure 1 rfl (by kernel_rfl) (fun w' => run_move) rfl rfl (WT.pure 2 rfl (by kernel_rfl) (fun w' => run_move) rfl rfl (WT.pure 3 rfl (by kernel_rfl) (fun w' => run_move) rfl rfl (WT.pure 4 rfl (by kernel_rfl) (fun w' => run_move) rfl rfl (WT.pure 5 rfl (by kernel_rfl) (fun w' => run_move) rfl rfl (WT.pure 6 rfl (by kernel_rfl) (fun w' => (run_indexAddr underlying129 sizeOf23 rfl rfl (by omega) (by omega))) rfl rfl (WT.load1 7 rfl (by kernel_rfl) isAgg23 rfl (RowU.cellZ h (by omega) (by omega)) rfl rfl ?_)))))))
    refine WT.pure 8 rfl (by kernel_rfl) (fun w' => run_move) rfl rfl (WT.pure 9 rfl (by kernel_rfl) (fun w' => run_move) rfl rfl (WT.pure 10 rfl (by kernel_rfl) (fun w' => (run_indexAddr underlying129 sizeOf23 rfl rfl (by omega) (by omega))) rfl rfl (WT.load1 11 rfl (by kernel_rfl) isAgg23 rfl (RowU.cellZ h (by omega) (by omega)) rfl rfl (WT.pure 12 rfl (by kernel_rfl) (fun w' => (run_indexAddr underlying129 sizeOf23 rfl rfl (by omega) (by omega))) rfl rfl (WT.eff 13 [false, false] rfl (by kernel_rfl) (by kernel_rfl) (eff_setRK (RowU.cellQ (i := i) h (by omega) (by omega)) h sizeOf23 rfl rfl (by omega) (by omega) (RowU.cellQ h (by omega) (by omega))) rfl rfl ?_)))))
    rintro _ w ⟨hqK, h⟩
    refine ⟨trivial, ?_⟩
    refine WT.pure 14 rfl (by kernel_rfl) (fun w' => (run_indexAddr underlying129 sizeOf23 rfl rfl (by omega) (by omega))) rfl rfl (WT.eff 15 [] rfl (by kernel_rfl) (by kernel_rfl) (eff_setR h sizeOf23 rfl rfl (by omega) (by omega) hqK) rfl rfl ?_)
    rintro _ w h
    refine ⟨trivial, ?_⟩
    refine WT.done (by kernel_rfl) (W.seq (W.region (WL.val run_move rfl rfl (WL.val (run_add rfl rfl (by omega) (by omega)) rfl rfl (WL.val run_assign rfl rfl (WL.nil (W.region ?_)))))))
    refine WL.val run_move rfl rfl (WL.val (run_sub rfl rfl (by omega) (by omega)) rfl rfl (WL.val run_assign rfl rfl (WL.nil ?_)))
    exact ⟨(i + 1, k - 1), ⟨by (try dsimp only); omega, _, mkE_of ⟨rfl, rfl, rfl, rfl, trivial⟩, h⟩, by show (k - 1 + 1 - (i + 1)).toNat < (j0 + 1 - i0).toNat; omega⟩
   refine WT.pure 3 rfl (by kernel_rfl) (fun w' => run_move) rfl rfl (WT.skip 4 rfl (by kernel_rfl) rfl rfl (WT.skip 5 rfl (by kernel_rfl) rfl rfl (WT.skip 6 rfl (by kernel_rfl) rfl rfl (WT.skip 7 rfl (by kernel_rfl) rfl rfl (WT.skip 8 rfl (by kernel_rfl) rfl rfl (WT.skip 9 rfl (by kernel_rfl) rfl rfl (WT.skip 10 rfl (by kernel_rfl) rfl rfl ?_)))))))
   refine WT.skip 11 rfl (by kernel_rfl) rfl rfl (WT.skip 12 rfl (by kernel_rfl) rfl rfl (WT.pure 13 rfl (by kernel_rfl) (fun w' => (run_pickF rfl)) rfl rfl (WT.done (by kernel_rfl) (W.condF rfl (W.exit (W.seq (W.block ?_)))))))
   refine W.loop (fun (s : Int) env w => (a ≤ s ∧ s ≤ j0 ∧ (i ≤ s + 1 ∨ s = j0)) ∧ ∃ jk, env = mkE jk [(0, .slice (some ⟨bd, od, none⟩) n cp), (1, .int .i64 a), (10, .int .i64 i), (11, .int .i64 s)] ∧ On W0 (RowU Q (.slice (some ⟨bd, od, none⟩) n cp) n :: L) w) (fun s => (s + 1 - i).toNat) (j0) ?_ ?_
   · exact ⟨by (try dsimp only); omega, _, mkE_of ⟨rfl, rfl, rfl, rfl, trivial⟩, h⟩
   rintro k env w ⟨hI14, jk, rfl, h⟩
   refine W.seq (W.seq ?_)
   refine W.draw Tryz.follows h (fun w h => ?_)
   refine WT.pure 0 rfl (by kernel_rfl) (fun w' => run_move) rfl rfl (WT.pure 1 rfl (by kernel_rfl) (fun w' => run_move) rfl rfl ?_)
   refine WT.dec 2 rfl (by kernel_rfl) (fun w' => (run_leq rfl rfl)) rfl rfl (fun c117 => ?_) (fun c117 => ?_)
   ·
    refine WT.pure 3 rfl (by kernel_rfl) (fun w' => run_move) rfl rfl (WT.pure 4 rfl (by kernel_rfl) (fun w' => run_move) rfl rfl (WT.pure 5 rfl (by kernel_rfl) (fun w' => run_move) rfl rfl (WT.pure 6 rfl (by kernel_rfl) (fun w' => (run_indexAddr underlying129 sizeOf23 rfl rfl (by omega) (by omega))) rfl rfl (WT.load1 7 rfl (by kernel_rfl) isAgg23 rfl (RowU.cellZ h (by omega) (by omega)) rfl rfl (WT.pure 8 rfl (by kernel_rfl) (fun w' => run_move) rfl rfl (WT.pure 9 rfl (by kernel_rfl) (fun w' => run_move) rfl rfl (WT.pure 10 rfl (by kernel_rfl) (fun w' => (run_indexAddr underlying129 sizeOf23 rfl rfl (by omega) (by omega))) rfl rfl ?_)))))))
    refine WT.load1 11 rfl (by kernel_rfl) isAgg23 rfl (RowU.cellZ h (by omega) (by omega)) rfl rfl (WT.eff 12 [false, false] rfl (by kernel_rfl) (by kernel_rfl) (eff_call call157 (less_ok h)) rfl rfl ?_)
    rintro _ w ⟨⟨b127, rfl⟩, h⟩
    refine ⟨trivial, ?_⟩
    refine WT.pure 13 rfl (by kernel_rfl) (fun w' => (run_not rfl)) rfl rfl (WT.pure 14 rfl (by kernel_rfl) (fun w' => (run_pickT rfl)) rfl rfl (WT.done (by kernel_rfl) ?_))
    refine W.condB rfl (fun c42 => ?_) (fun c42 => ?_)
    ·
     refine W.skip (W.block (W.region (WL.val run_move rfl rfl (WL.val (run_sub rfl rfl (by omega) (by omega)) rfl rfl (WL.val run_assign rfl rfl (WL.nil ?_))))))
     exact ⟨k - 1, ⟨by (try dsimp only); omega, _, mkE_of ⟨rfl, rfl, rfl, rfl, trivial⟩, h⟩, by show (k - 1 + 1 - i).toNat < (k + 1 - i).toNat; omega⟩
    refine W.exit (W.seq (W.seq (W.region (WL.val run_move rfl rfl (WL.val run_move rfl rfl (WL.val (run_gtr rfl rfl) rfl rfl (WL.nil ?_)))))))
    refine W.condIf rfl (fun c48 => ?_) (fun c48 => ?_)
    ·
     refine W.exit (W.seq ?_)
     refine W.draw Tryz.follows h (fun w h => ?_)
     refine WT.pure 0 rfl (by kernel_rfl) (fun w' => run_move) rfl rfl (WT.pure 1 rfl (by kernel_rfl) (fun w' => run_move) rfl rfl (WT.pure 2 rfl (by kernel_rfl) (fun w' => run_move) rfl rfl (WT.pure 3 rfl (by kernel_rfl) (fun w' => run_move) rfl rfl (WT.pure 4 rfl (by kernel_rfl) (fun w' => run_move) rfl rfl (WT.pure 5 rfl (by kernel_rfl) (fun w' => run_move) rfl rfl (WT.pure 6 rfl (by kernel_rfl) (fun w' => (run_indexAddr underlying129 sizeOf23 rfl rfl (by omega) (by omega))) rfl rfl (WT.load1 7 rfl (by kernel_rfl) isAgg23 rfl (RowU.cellZ h (by omega) (by omega)) rfl rfl ?_)))))))
     refine WT.pure 8 rfl (by kernel_rfl) (fun w' => run_move) rfl rfl (WT.pure 9 rfl (by kernel_rfl) (fun w' => run_move) rfl rfl (WT.pure 10 rfl (by kernel_rfl) (fun w' => (run_indexAddr underlying129 sizeOf23 rfl rfl (by omega) (by omega))) rfl rfl (WT.load1 11 rfl (by kernel_rfl) isAgg23 rfl (RowU.cellZ h (by omega) (by omega)) rfl rfl (WT.pure 12 rfl (by kernel_rfl) (fun w' => (run_indexAddr underlying129 sizeOf23 rfl rfl (by omega) (by omega))) rfl rfl (WT.eff 13 [false, false] rfl (by kernel_rfl) (by kernel_rfl) (eff_setRK (RowU.cellQ (i := k) h (by omega) (by omega)) h sizeOf23 rfl rfl (by omega) (by omega) (RowU.cellQ h (by omega) (by omega))) rfl rfl ?_)))))
     rintro _ w ⟨hqK, h⟩
     refine ⟨trivial, ?_⟩
     refine WT.pure 14 rfl (by kernel_rfl) (fun w' => (run_indexAddr underlying129 sizeOf23 rfl rfl (by omega) (by omega))) rfl rfl (WT.eff 15 [] rfl (by kernel_rfl) (by kernel_rfl) (eff_setR h sizeOf23 rfl rfl (by omega) (by omega) hqK) rfl rfl ?_)
     rintro _ w h
     refine ⟨trivial, ?_⟩
     refine WT.done (by kernel_rfl) (W.seq (W.region (WL.val run_move rfl rfl (WL.val run_assign rfl rfl (WL.val run_assign rfl rfl (WL.nil (W.ret ?_)))))))
     refine bodyQ.r2 (v1 := .int .i64 _) (v2 := .bool _) results159 rfl rfl ?_
     exact ⟨_, _, by omega, by omega, rfl, h⟩
    refine W.skip (W.seq ?_)
    refine W.draw Tryz.follows h (fun w h => ?_)
    refine WT.pure 0 rfl (by kernel_rfl) (fun w' => run_move) rfl rfl (WT.pure 1 rfl (by kernel_rfl) (fun w' => run_move) rfl rfl (WT.pure 2 rfl (by kernel_rfl) (fun w' => run_move) rfl rfl (WT.pure 3 rfl (by kernel_rfl) (fun w' => run_move) rfl rfl (WT.pure 4 rfl (by kernel_rfl) (fun w' => run_move) rfl rfl (WT.pure 5 rfl (by kernel_rfl) (fun w' => run_move) rfl rfl (WT.pure 6 rfl (by kernel_rfl) (fun w' => (run_indexAddr underlying129 sizeOf23 rfl rfl (by omega) (by omega))) rfl rfl (WT.load1 7 rfl (by kernel_rfl) isAgg23 rfl (RowU.cellZ h (by omega) (by omega)) rfl rfl ?_)))))))
    refine WT.pure 8 rfl (by kernel_rfl) (fun w' => run_move) rfl rfl (WT.pure 9 rfl (by kernel_rfl) (fun w' => run_move) rfl rfl (WT.pure 10 rfl (by kernel_rfl) (fun w' => (run_indexAddr underlying129 sizeOf23 rfl rfl (by omega) (by omega))) rfl rfl (WT.load1 11 rfl (by kernel_rfl) isAgg23 rfl (RowU.cellZ h (by omega) (by omega)) rfl rfl (WT.pure 12 rfl (by kernel_rfl) (fun w' => (run_indexAddr underlying129 sizeOf23 rfl rfl (by omega) (by omega))) rfl rfl (WT.eff 13 [false, false] rfl (by kernel_rfl) (by kernel_rfl) (eff_setRK (RowU.cellQ (i := i) h (by omega) (by omega)) h sizeOf23 rfl rfl (by omega) (by omega) (RowU.cellQ h (by omega) (by omega))) rfl rfl ?_)))))
    rintro _ w ⟨hqK, h⟩
    refine ⟨trivial, ?_⟩
    refine WT.pure 14 rfl (by kernel_rfl) (fun w' => (run_indexAddr underlying129 sizeOf23 rfl rfl (by omega) (by omega))) rfl rfl (WT.eff 15 [] rfl (by kernel_rfl) (by kernel_rfl) (eff_setR h sizeOf23 rfl rfl (by omega) (by omega) hqK) rfl rfl ?_)
    rintro _ w h
    refine ⟨trivial, ?_⟩
    refine WT.done (by kernel_rfl) (W.seq (W.region (WL.val run_move rfl rfl (WL.val (run_add rfl rfl (by omega) (by omega)) rfl rfl (WL.val run_assign rfl rfl (WL.nil (W.region ?_)))))))
    refine WL.val run_move rfl rfl (WL.val (run_sub rfl rfl (by omega) (by omega)) rfl rfl (WL.val run_assign rfl rfl (WL.nil ?_)))
    exact ⟨(i + 1, k - 1), ⟨by (try dsimp only); omega, _, mkE_of ⟨rfl, rfl, rfl, rfl, trivial⟩, h⟩, by show (k - 1 + 1 - (i + 1)).toNat < (j0 + 1 - i0).toNat; omega⟩
   refine WT.pure 3 rfl (by kernel_rfl) (fun w' => run_move) rfl rfl (WT.skip 4 rfl (by kernel_rfl) rfl rfl (WT.skip 5 rfl (by kernel_rfl) rfl rfl (WT.skip 6 rfl (by kernel_rfl) rfl rfl (WT.skip 7 rfl (by kernel_rfl) rfl rfl (WT.skip 8 rfl (by kernel_rfl) rfl rfl (WT.skip 9 rfl (by kernel_rfl) rfl rfl (WT.skip 10 rfl (by kernel_rfl) rfl rfl ?_)))))))
   refine WT.skip 11 rfl (by kernel_rfl) rfl rfl (WT.skip 12 rfl (by kernel_rfl) rfl rfl (WT.skip 13 rfl (by kernel_rfl) rfl rfl (WT.pure 14 rfl (by kernel_rfl) (fun w' => (run_pickF rfl)) rfl rfl (WT.done (by kernel_rfl) (W.condF rfl (W.exit (W.seq ?_)))))))
   refine W.seq (W.region (WL.val run_move rfl rfl (WL.val run_move rfl rfl (WL.val (run_gtr rfl rfl) rfl rfl (WL.nil ?_)))))
   refine W.condIf rfl (fun c48 => ?_) (fun c48 => ?_)
   ·
    refine W.exit (W.seq ?_)
    refine W.draw Tryz.follows h (fun w h => ?_)
    refine WT.pure 0 rfl (by kernel_rfl) (fun w' => run_move) rfl rfl (WT.pure 1 rfl (by kernel_rfl) (fun w' => run_move) rfl rfl (WT.pure 2 rfl (by kernel_rfl) (fun w' => run_move) rfl rfl (WT.pure 3 rfl (by kernel_rfl) (fun w' => run_move) rfl rfl (WT.pure 4 rfl (by kernel_rfl) (fun w' => run_move) rfl rfl (WT.pure 5 rfl (by kernel_rfl) (fun w' => run_move) rfl rfl (WT.pure 6 rfl (by kernel_rfl) (fun w' => (run_indexAddr underlying129 sizeOf23 rfl rfl (by omega) (by omega))) rfl rfl (WT.load1 7 rfl (by kernel_rfl) isAgg23 rfl (RowU.cellZ h (by omega) (by omega)) rfl rfl ?_)))))))
    refine WT.pure 8 rfl (by kernel_rfl) (fun w' => run_move) rfl rfl (WT.pure 9 rfl (by kernel_rfl) (fun w' => run_move) rfl rfl (WT.pure 10 rfl (by kernel_rfl) (fun w' => (run_indexAddr underlying129 sizeOf23 rfl rfl (by omega) (by omega))) rfl rfl (WT.load1 11 rfl (by kernel_rfl) isAgg23 rfl (RowU.cellZ h (by omega) (by omega)) rfl rfl (WT.pure 12 rfl (by kernel_rfl) (fun w' => (run_indexAddr underlying129 sizeOf23 rfl rfl (by omega) (by omega))) rfl rfl (WT.eff 13 [false, false] rfl (by kernel_rfl) (by kernel_rfl) (eff_setRK (RowU.cellQ (i := k) h (by omega) (by omega)) h sizeOf23 rfl rfl (by omega) (by omega) (RowU.cellQ h (by omega) (by omega))) rfl rfl ?_)))))
    rintro _ w ⟨hqK, h⟩
    refine ⟨trivial, ?_⟩
    refine WT.pure 14 rfl (by kernel_rfl) (fun w' => (run_indexAddr underlying129 sizeOf23 rfl rfl (by omega) (by omega))) rfl rfl (WT.eff 15 [] rfl (by kernel_rfl) (by kernel_rfl) (eff_setR h sizeOf23 rfl rfl (by omega) (by omega) hqK) rfl rfl ?_)
    rintro _ w h
    refine ⟨trivial, ?_⟩
    refine WT.done (by kernel_rfl) (W.seq (W.region (WL.val run_move rfl rfl (WL.val run_assign rfl rfl (WL.val run_assign rfl rfl (WL.nil (W.ret ?_)))))))
    refine bodyQ.r2 (v1 := .int .i64 _) (v2 := .bool _) results159 rfl rfl ?_
    exact ⟨_, _, by omega, by omega, rfl, h⟩
   refine W.skip (W.seq ?_)
   refine W.draw Tryz.follows h (fun w h => ?_)
   refine WT.pure 0 rfl (by kernel_rfl) (fun w' => run_move) rfl rfl (WT.pure 1 rfl (by kernel_rfl) (fun w' => run_move) rfl rfl (WT.pure 2 rfl (by kernel_rfl) (fun w' => run_move) rfl rfl (WT.pure 3 rfl (by kernel_rfl) (fun w' => run_move) rfl rfl (WT.pure 4 rfl (by kernel_rfl) (fun w' => run_move) rfl rfl (WT.pure 5 rfl (by kernel_rfl) (fun w' => run_move) rfl rfl (WT.pure 6 rfl (by kernel_rfl) (fun w' => (run_indexAddr underlying129 sizeOf23 rfl rfl (by omega) (by omega))) rfl rfl (WT.load1 7 rfl (by kernel_rfl) isAgg23 rfl (RowU.cellZ h (by omega) (by omega)) rfl rfl ?_)))))))
   refine WT.pure 8 rfl (by kernel_rfl) (fun w' => run_move) rfl rfl (WT.pure 9 rfl (by kernel_rfl) (fun w' => run_move) rfl rfl (WT.pure 10 rfl (by kernel_rfl) (fun w' => (run_indexAddr underlying129 sizeOf23 rfl rfl (by omega) (by omega))) rfl rfl (WT.load1 11 rfl (by kernel_rfl) isAgg23 rfl (RowU.cellZ h (by omega) (by omega)) rfl rfl (WT.pure 12 rfl (by kernel_rfl) (fun w' => (run_indexAddr underlying129 sizeOf23 rfl rfl (by omega) (by omega))) rfl rfl (WT.eff 13 [false, false] rfl (by kernel_rfl) (by kernel_rfl) (eff_setRK (RowU.cellQ (i := i) h (by omega) (by omega)) h sizeOf23 rfl rfl (by omega) (by omega) (RowU.cellQ h (by omega) (by omega))) rfl rfl ?_)))))
   rintro _ w ⟨hqK, h⟩
   refine ⟨trivial, ?_⟩
   refine WT.pure 14 rfl (by kernel_rfl) (fun w' => (run_indexAddr underlying129 sizeOf23 rfl rfl (by omega) (by omega))) rfl rfl (WT.eff 15 [] rfl (by kernel_rfl) (by kernel_rfl) (eff_setR h sizeOf23 rfl rfl (by omega) (by omega) hqK) rfl rfl ?_)
   rintro _ w h
   refine ⟨trivial, ?_⟩
   refine WT.done (by kernel_rfl) (W.seq (W.region (WL.val run_move rfl rfl (WL.val (run_add rfl rfl (by omega) (by omega)) rfl rfl (WL.val run_assign rfl rfl (WL.nil (W.region ?_)))))))
   refine WL.val run_move rfl rfl (WL.val (run_sub rfl rfl (by omega) (by omega)) rfl rfl (WL.val run_assign rfl rfl (WL.nil ?_)))
   exact ⟨(i + 1, k - 1), ⟨by (try dsimp only); omega, _, mkE_of ⟨rfl, rfl, rfl, rfl, trivial⟩, h⟩, by show (k - 1 + 1 - (i + 1)).toNat < (j0 + 1 - i0).toNat; omega⟩
  refine WT.pure 3 rfl (by kernel_rfl) (fun w' => run_move) rfl rfl (WT.skip 4 rfl (by kernel_rfl) rfl rfl (WT.skip 5 rfl (by kernel_rfl) rfl rfl (WT.skip 6 rfl (by kernel_rfl) rfl rfl (WT.skip 7 rfl (by kernel_rfl) rfl rfl (WT.skip 8 rfl (by kernel_rfl) rfl rfl (WT.skip 9 rfl (by kernel_rfl) rfl rfl (WT.skip 10 rfl (by kernel_rfl) rfl rfl ?_)))))))
  refine WT.skip 11 rfl (by kernel_rfl) rfl rfl (WT.skip 12 rfl (by kernel_rfl) rfl rfl (WT.skip 13 rfl (by kernel_rfl) rfl rfl (WT.pure 14 rfl (by kernel_rfl) (fun w' => (run_pickF rfl)) rfl rfl (WT.done (by kernel_rfl) (W.condF rfl (W.exit (W.seq ?_)))))))
  refine W.seq (W.region (WL.val run_move rfl rfl (WL.val run_move rfl rfl (WL.val (run_gtr rfl rfl) rfl rfl (WL.nil ?_)))))
  refine W.condIf rfl (fun c20 => ?_) (fun c20 => ?_)
  ·
   refine W.seq ?_
   refine W.draw Tryz.follows h (fun w h => ?_)
   refine WT.pure 0 rfl (by kernel_rfl) (fun w' => run_move) rfl rfl (WT.pure 1 rfl (by kernel_rfl) (fun w' => run_move) rfl rfl (WT.pure 2 rfl (by kernel_rfl) (fun w' => run_move) rfl rfl (WT.pure 3 rfl (by kernel_rfl) (fun w' => run_move) rfl rfl (WT.pure 4 rfl (by kernel_rfl) (fun w' => run_move) rfl rfl (WT.pure 5 rfl (by kernel_rfl) (fun w' => run_move) rfl rfl (WT.pure 6 rfl (by kernel_rfl) (fun w' => (run_indexAddr underlying129 sizeOf23 rfl rfl (by omega) (by omega))) rfl rfl (WT.load1 7 rfl (by kernel_rfl) isAgg23 rfl (RowU.cellZ h (by omega) (by omega)) rfl rfl ?_)))))))
   refine WT.pure 8 rfl (by kernel_rfl) (fun w' => run_move) rfl rfl (WT.pure 9 rfl (by kernel_rfl) (fun w' => run_move) rfl rfl (WT.pure 10 rfl (by kernel_rfl) (fun w' => (run_indexAddr underlying129 sizeOf23 rfl rfl (by omega) (by omega))) rfl rfl (WT.load1 11 rfl (by kernel_rfl) isAgg23 rfl (RowU.cellZ h (by omega) (by omega)) rfl rfl (WT.pure 12 rfl (by kernel_rfl) (fun w' => (run_indexAddr underlying129 sizeOf23 rfl rfl (by omega) (by omega))) rfl rfl (WT.eff 13 [false, false] rfl (by kernel_rfl) (by kernel_rfl) (eff_setRK (RowU.cellQ (i := k) h (by omega) (by omega)) h sizeOf23 rfl rfl (by omega) (by omega) (RowU.cellQ h (by omega) (by omega))) rfl rfl ?_)))))
   rintro _ w ⟨hqK, h⟩
   refine ⟨trivial, ?_⟩
   refine WT.pure 14 rfl (by kernel_rfl) (fun w' => (run_indexAddr underlying129 sizeOf23 rfl rfl (by omega) (by omega))) rfl rfl (WT.eff 15 [] rfl (by kernel_rfl) (by kernel_rfl) (eff_setR h sizeOf23 rfl rfl (by omega) (by omega) hqK) rfl rfl ?_)
   rintro _ w h
   refine ⟨trivial, ?_⟩
   refine WT.done (by kernel_rfl) (W.seq (W.region (WL.val run_move rfl rfl (WL.val run_assign rfl rfl (WL.val run_assign rfl rfl (WL.nil (W.ret ?_)))))))
   refine bodyQ.r2 (v1 := .int .i64 _) (v2 := .bool _) results159 rfl rfl ?_
   exact ⟨_, _, by omega, by omega, rfl, h⟩
  refine W.skip (W.seq ?_)
  refine W.draw Tryz.follows h (fun w h => ?_)
  refine WT.pure 0 rfl (by kernel_rfl) (fun w' => run_move) rfl rfl (WT.pure 1 rfl (by kernel_rfl) (fun w' => run_move) rfl rfl (WT.pure 2 rfl (by kernel_rfl) (fun w' => run_move) rfl rfl (WT.pure 3 rfl (by kernel_rfl) (fun w' => run_move) rfl rfl (WT.pure 4 rfl (by kernel_rfl) (fun w' => run_move) rfl rfl (WT.pure 5 rfl (by kernel_rfl) (fun w' => run_move) rfl rfl (WT.pure 6 rfl (by kernel_rfl) (fun w' => (run_indexAddr underlying129 sizeOf23 rfl rfl (by omega) (by omega))) rfl rfl (WT.load1 7 rfl (by kernel_rfl) isAgg23 rfl (RowU.cellZ h (by omega) (by omega)) rfl rfl ?_)))))))
  refine WT.pure 8 rfl (by kernel_rfl) (fun w' => run_move) rfl rfl (WT.pure 9 rfl (by kernel_rfl) (fun w' => run_move) rfl rfl (WT.pure 10 rfl (by kernel_rfl) (fun w' => (run_indexAddr underlying129 sizeOf23 rfl rfl (by omega) (by omega))) rfl rfl (WT.load1 11 rfl (by kernel_rfl) isAgg23 rfl (RowU.cellZ h (by omega) (by omega)) rfl rfl (WT.pure 12 rfl (by kernel_rfl) (fun w' => (run_indexAddr underlying129 sizeOf23 rfl rfl (by omega) (by omega))) rfl rfl (WT.eff 13 [false, false] rfl (by kernel_rfl) (by kernel_rfl) (eff_setRK (RowU.cellQ (i := i) h (by omega) (by omega)) h sizeOf23 rfl rfl (by omega) (by omega) (RowU.cellQ h (by omega) (by omega))) rfl rfl ?_)))))
  rintro _ w ⟨hqK, h⟩
  refine ⟨trivial, ?_⟩
  refine WT.pure 14 rfl (by kernel_rfl) (fun w' => (run_indexAddr underlying129 sizeOf23 rfl rfl (by omega) (by omega))) rfl rfl (WT.eff 15 [] rfl (by kernel_rfl) (by kernel_rfl) (eff_setR h sizeOf23 rfl rfl (by omega) (by omega) hqK) rfl rfl ?_)
  rintro _ w h
  refine ⟨trivial, ?_⟩
  refine WT.done (by kernel_rfl) (W.seq (W.region (WL.val run_move rfl rfl (WL.val (run_add rfl rfl (by omega) (by omega)) rfl rfl (WL.val run_assign rfl rfl (WL.nil (W.seq ?_)))))))
  refine W.region (WL.val run_move rfl rfl (WL.val (run_sub rfl rfl (by omega) (by omega)) rfl rfl (WL.val run_assign rfl rfl (WL.nil (W.seq (W.block ?_))))))
  refine W.loop (fun (s : Int × Int) env w => (a + 1 ≤ s.1 ∧ s.1 ≤ b ∧ s.1 ≤ s.2 + 2 ∧ a ≤ s.2 ∧ s.2 < b) ∧ ∃ jk, env = mkE jk [(0, .slice (some ⟨bd, od, none⟩) n cp), (1, .int .i64 a), (10, .int .i64 s.1), (11, .int .i64 s.2)] ∧ On W0 (RowU Q (.slice (some ⟨bd, od, none⟩) n cp) n :: L) w) (fun s => (s.2 + 1 - s.1).toNat) ((i + 1, k - 1)) ?_ ?_
  · exact ⟨by (try dsimp only); omega, _, mkE_of ⟨rfl, rfl, rfl, rfl, trivial⟩, h⟩
  rintro ⟨i0, j0⟩ env w ⟨hI12, jk, rfl, h⟩
  try dsimp only at hI12
  refine W.block (W.seq (W.block ?_))
  refine W.loop (fun (s : Int) env w => (i0 ≤ s ∧ (s ≤ j0 + 1 ∨ s = i0)) ∧ ∃ jk, env = mkE jk [(0, .slice (some ⟨bd, od, none⟩) n cp), (1, .int .i64 a), (10, .int .i64 s), (11, .int .i64 j0)] ∧ On W0 (RowU Q (.slice (some ⟨bd, od, none⟩) n cp) n :: L) w) (fun s => (j0 + 1 - s).toNat) (i0) ?_ ?_
  · exact ⟨by (try dsimp only); omega, _, mkE_of ⟨rfl, rfl, rfl, rfl, trivial⟩, h⟩
  rintro i env w ⟨hI13, jk, rfl, h⟩
  refine W.seq (W.seq ?_)
  refine W.draw Tryz.follows h (fun w h => ?_)
  refine WT.pure 0 rfl (by kernel_rfl) (fun w' => run_move) rfl rfl (WT.pure 1 rfl (by kernel_rfl) (fun w' => run_move) rfl rfl ?_)
  refine WT.dec 2 rfl (by kernel_rfl) (fun w' => (run_leq rfl rfl)) rfl rfl (fun c101 => ?_) (fun c101 => ?_)
  ·
   refine WT.pure 3 rfl (by kernel_rfl) (fun w' => run_move) rfl rfl (WT.pure 4 rfl (by kernel_rfl) (fun w' => run_move) rfl rfl (WT.pure 5 rfl (by kernel_rfl) (fun w' => run_move) rfl rfl (WT.pure 6 rfl (by kernel_rfl) (fun w' => (run_indexAddr underlying129 sizeOf23 rfl rfl (by omega) (by omega))) rfl rfl (WT.load1 7 rfl (by kernel_rfl) isAgg23 rfl (RowU.cellZ h (by omega) (by omega)) rfl rfl (WT.pure 8 rfl (by kernel_rfl) (fun w' => run_move) rfl rfl (WT.pure 9 rfl (by kernel_rfl) (fun w' => run_move) rfl rfl (WT.pure 10 rfl (by kernel_rfl) (fun w' => (run_indexAddr underlying129 sizeOf23 rfl rfl (by omega) (by omega))) rfl rfl ?_)))))))
   refine WT.load1 11 rfl (by kernel_rfl) isAgg23 rfl (RowU.cellZ h (by omega) (by omega)) rfl rfl (WT.eff 12 [false, false] rfl (by kernel_rfl) (by kernel_rfl) (eff_call call157 (less_ok h)) rfl rfl ?_)
   rintro _ w ⟨⟨b111, rfl⟩, h⟩
   refine ⟨trivial, ?_⟩
   refine WT.pure 13 rfl (by kernel_rfl) (fun w' => (run_pickT rfl)) rfl rfl (WT.done (by kernel_rfl) ?_)
   refine W.condB rfl (fun c34 => ?_) (fun c34 => ?_)
   ·
    refine W.skip (W.block (W.region (WL.val run_move rfl rfl (WL.val (run_add rfl rfl (by omega) (by omega)) rfl rfl (WL.val run_assign rfl rfl (WL.nil ?_))))))
    exact ⟨i + 1, ⟨by (try dsimp only); omega, _, mkE_of ⟨rfl, rfl, rfl, rfl, trivial⟩, h⟩, by show (j0 + 1 - (i + 1)).toNat < (j0 + 1 - i).toNat; omega⟩
   refine W.exit (W.seq (W.block ?_))
   refine W.loop (fun (s : Int) env w => (a ≤ s ∧ s ≤ j0 ∧ (i ≤ s + 1 ∨ s = j0)) ∧ ∃ jk, env = mkE jk [(0, .slice (some ⟨bd, od, none⟩) n cp), (1, .int .i64 a), (10, .int .i64 i), (11, .int .i64 s)] ∧ On W0 (RowU Q (.slice (some ⟨bd, od, none⟩) n cp) n :: L) w) (fun s => (s + 1 - i).toNat) (j0) ?_ ?_
   · exact ⟨by (try dsimp only); omega, _, mkE_of ⟨rfl, rfl, rfl, rfl, trivial⟩, h⟩
   rintro k env w ⟨hI14, jk, rfl, h⟩
   refine W.seq (W.seq ?_)
   refine W.draw Tryz.follows h (fun w h => ?_)
   refine WT.pure 0 rfl (by kernel_rfl) (fun w' => run_move) rfl rfl (WT.pure 1 rfl (by kernel_rfl) (fun w' => run_move) rfl rfl ?_)
   refine WT.dec 2 rfl (by kernel_rfl) (fun w' => (run_leq rfl rfl)) rfl rfl (fun c117 => ?_) (fun c117 => ?_)
   ·
    refine WT.pure 3 rfl (by kernel_rfl) (fun w' => run_move) rfl rfl (WT.pure 4 rfl (by kernel_rfl) (fun w' => run_move) rfl rfl (WT.pure 5 rfl (by kernel_rfl) (fun w' => run_move) rfl rfl (WT.pure 6 rfl (by kernel_rfl) (fun w' => (run_indexAddr underlying129 sizeOf23 rfl rfl (by omega) (by omega))) rfl rfl (WT.load1 7 rfl (by kernel_rfl) isAgg23 rfl (RowU.cellZ h (by omega) (by omega)) rfl rfl (WT.pure 8 rfl (by kernel_rfl) (fun w' => run_move) rfl rfl (WT.pure 9 rfl (by kernel_rfl) (fun w' => run_move) rfl rfl (WT.pure 10 rfl (by kernel_rfl) (fun w' => (run_indexAddr underlying129 sizeOf23 rfl rfl (by omega) (by omega))) rfl rfl ?_)))))))
    refine WT.load1 11 rfl (by kernel_rfl) isAgg23 rfl (RowU.cellZ h (by omega) (by omega)) rfl rfl (WT.eff 12 [false, false] rfl (by kernel_rfl) (by kernel_rfl) (eff_call call157 (less_ok h)) rfl rfl ?_)
    rintro _ w ⟨⟨b127, rfl⟩, h⟩
    refine ⟨trivial, ?_⟩
    refine WT.pure 13 rfl (by kernel_rfl) (fun w' => (run_not rfl)) rfl rfl (WT.pure 14 rfl (by kernel_rfl) (fun w' => (run_pickT rfl)) rfl rfl (WT.done (by kernel_rfl) ?_))
    refine W.condB rfl (fun c42 => ?_) (fun c42 => ?_)
    ·
     refine W.skip (W.block (W.region (WL.val run_move rfl rfl (WL.val (run_sub rfl rfl (by omega) (by omega)) rfl rfl (WL.val run_assign rfl rfl (WL.nil ?_))))))
     exact ⟨k - 1, ⟨by (try dsimp only); omega, _, mkE_of ⟨rfl, rfl, rfl, rfl, trivial⟩, h⟩, by show (k - 1 + 1 - i).toNat < (k + 1 - i).toNat; omega⟩
    refine W.exit (W.seq (W.seq (W.region (WL.val run_move rfl rfl (WL.val run_move rfl rfl (WL.val (run_gtr rfl rfl) rfl rfl (WL.nil ?_)))))))
    refine W.condIf rfl (fun c48 => ?_) (fun c48 => ?_)
    ·
     refine W.exit (W.seq ?_)
     refine W.draw Tryz.follows h (fun w h => ?_)
     refine WT.pure 0 rfl (by kernel_rfl) (fun w' => run_move) rfl rfl (WT.pure 1 rfl (by kernel_rfl) (fun w' => run_move) rfl rfl (WT.pure 2 rfl (by kernel_rfl) (fun w' => run_move) rfl rfl (WT.pure 3 rfl (by kernel_rfl) (fun w' => run_move) rfl rfl (WT.pure 4 rfl (by kernel_rfl) (fun w' => run_move) rfl rfl (WT.pure 5 rfl (by kernel_rfl) (fun w' => run_move) rfl rfl (WT.pure 6 rfl (by kernel_rfl) (fun w' => (run_indexAddr underlying129 sizeOf23 rfl rfl (by omega) (by omega))) rfl rfl (WT.load1 7 rfl (by kernel_rfl) isAgg23 rfl (RowU.cellZ h (by omega) (by omega)) rfl rfl ?_)))))))
     refine WT.pure 8 rfl (by kernel_rfl) (fun w' => run_move) rfl rfl (WT.pure 9 rfl (by kernel_rfl) (fun w' => run_move) rfl rfl (WT.pure 10 rfl (by kernel_rfl) (fun w' => (run_indexAddr underlying129 sizeOf23 rfl rfl (by omega) (by omega))) rfl rfl (WT.load1 11 rfl (by kernel_rfl) isAgg23 rfl (RowU.cellZ h (by omega) (by omega)) rfl rfl (WT.pure 12 rfl (by kernel_rfl) (fun w' => (run_indexAddr underlying129 sizeOf23 rfl rfl (by omega) (by omega))) rfl rfl (WT.eff 13 [false, false] rfl (by kernel_rfl) (by kernel_rfl) (eff_setRK (RowU.cellQ (i := k) h (by omega) (by omega)) h sizeOf23 rfl rfl (by omega) (by omega) (RowU.cellQ h (by omega) (by omega))) rfl rfl ?_)))))
     rintro _ w ⟨hqK, h⟩
     refine ⟨trivial, ?_⟩
     refine WT.pure 14 rfl (by kernel_rfl) (fun w' => (run_indexAddr underlying129 sizeOf23 rfl rfl (by omega) (by omega))) rfl rfl (WT.eff 15 [] rfl (by kernel_rfl) (by kernel_rfl) (eff_setR h sizeOf23 rfl rfl (by omega) (by omega) hqK) rfl rfl ?_)
     rintro _ w h
     refine ⟨trivial, ?_⟩
     refine WT.done (by kernel_rfl) (W.seq (W.region (WL.val run_move rfl rfl (WL.val run_assign rfl rfl (WL.val run_assign rfl rfl (WL.nil (W.ret ?_)))))))
     refine bodyQ.r2 (v1 := .int .i64 _) (v2 := .bool _) results159 rfl rfl ?_
     exact ⟨_, _, by omega, by omega, rfl, h⟩
    refine W.skip (W.seq ?_)
    refine W.draw Tryz.follows h (fun w h => ?_)
    refine WT.pure 0 rfl (by kernel_rfl) (fun w' => run_move) rfl rfl (WT.pure 1 rfl (by kernel_rfl) (fun w' => run_move) rfl rfl (WT.pure 2 rfl (by kernel_rfl) (fun w' => run_move) rfl rfl (WT.pure 3 rfl (by kernel_rfl) (fun w' => run_move) rfl rfl (WT.pure 4 rfl (by kernel_rfl) (fun w' => run_move) rfl rfl (WT.pure 5 rfl (by kernel_rfl) (fun w' => run_move) rfl rfl (WT.pure 6 rfl (by kernel_rfl) (fun w' => (run_indexAddr underlying129 sizeOf23 rfl rfl (by omega) (by omega))) rfl rfl (WT.load1 7 rfl (by kernel_rfl) isAgg23 rfl (RowU.cellZ h (by omega) (by omega)) rfl rfl ?_)))))))
    refine WT.pure 8 rfl (by kernel_rfl) (fun w' => run_move) rfl rfl (WT.pure 9 rfl (by kernel_rfl) (fun w' => run_move) rfl rfl (WT.pure 10 rfl (by kernel_rfl) (fun w' => (run_indexAddr underlying129 sizeOf23 rfl rfl (by omega) (by omega))) rfl rfl (WT.load1 11 rfl (by kernel_rfl) isAgg23 rfl (RowU.cellZ h (by omega) (by omega)) rfl rfl (WT.pure 12 rfl (by kernel_rfl) (fun w' => (run_indexAddr underlying129 sizeOf23 rfl rfl (by omega) (by omega))) rfl rfl (WT.eff 13 [false, false] rfl (by kernel_rfl) (by kernel_rfl) (eff_setRK (RowU.cellQ (i := i) h (by omega) (by omega)) h sizeOf23 rfl rfl (by omega) (by omega) (RowU.cellQ h (by omega) (by omega))) rfl rfl ?_)))))
    rintro _ w ⟨hqK, h⟩
    refine ⟨trivial, ?_⟩
    refine WT.pure 14 rfl (by kernel_rfl) (fun w' => (run_indexAddr underlying129 sizeOf23 rfl rfl (by omega) (by omega))) rfl rfl (WT.eff 15 [] rfl (by kernel_rfl) (by kernel_rfl) (eff_setR h sizeOf23 rfl rfl (by omega) (by omega) hqK) rfl rfl ?_)
    rintro _ w h
    refine ⟨trivial, ?_⟩
    refine WT.done (by kernel_rfl) (W.seq (W.region (WL.val run_move rfl rfl (WL.val (run_add rfl rfl (by omega) (by omega)) rfl rfl (WL.val run_assign rfl rfl (WL.nil (W.region ?_)))))))
    refine WL.val run_move rfl rfl (WL.val (run_sub rfl rfl (by omega) (by omega)) rfl rfl (WL.val run_assign rfl rfl (WL.nil ?_)))
    exact ⟨(i + 1, k - 1), ⟨by (try dsimp only); omega, _, mkE_of ⟨rfl, rfl, rfl, rfl, trivial⟩, h⟩, by show (k - 1 + 1 - (i + 1)).toNat < (j0 + 1 - i0).toNat; omega⟩
   refine WT.pure 3 rfl (by kernel_rfl) (fun w' => run_move) rfl rfl (WT.skip 4 rfl (by kernel_rfl) rfl rfl (WT.skip 5 rfl (by kernel_rfl) rfl rfl (WT.skip 6 rfl (by kernel_rfl) rfl rfl (WT.skip 7 rfl (by kernel_rfl) rfl rfl (WT.skip 8 rfl (by kernel_rfl) rfl rfl (WT.skip 9 rfl (by kernel_rfl) rfl rfl (WT.skip 10 rfl (by kernel_rfl) rfl rfl ?_)))))))
   refine WT.skip 11 rfl (by kernel_rfl) rfl rfl (WT.skip 12 rfl (by kernel_rfl) rfl rfl (WT.skip 13 rfl (by kernel_rfl) rfl rfl (WT.pure 14 rfl (by kernel_rfl) (fun w' => (run_pickF rfl)) rfl rfl (WT.done (by kernel_rfl) (W.condF rfl (W.exit (W.seq ?_)))))))
   refine W.seq (W.region (WL.val run_move rfl rfl (WL.val run_move rfl rfl (WL.val (run_gtr rfl rfl) rfl rfl (WL.nil ?_)))))
   refine W.condIf rfl (fun c48 => ?_) (fun c48 => ?_)
   ·
    refine W.exit (W.seq ?_)
    refine W.draw Tryz.follows h (fun w h => ?_)
    refine WT.pure 0 rfl (by kernel_rfl) (fun w' => run_move) rfl rfl (WT.pure 1 rfl (by kernel_rfl) (fun w' => run_move) rfl rfl (WT.pure 2 rfl (by kernel_rfl) (fun w' => run_move) rfl rfl (WT.pure 3 rfl (by kernel_rfl) (fun w' => run_move) rfl rfl (WT.pure 4 rfl (by kernel_rfl) (fun w' => run_move) rfl rfl (WT.pure 5 rfl (by kernel_rfl) (fun w' => run_move) rfl rfl (WT.pure 6 rfl (by kernel_rfl) (fun w' => (run_indexAddr underlying129 sizeOf23 rfl rfl (by omega) (by omega))) rfl rfl (WT.load1 7 rfl (by kernel_rfl) isAgg23 rfl (RowU.cellZ h (by omega) (by omega)) rfl rfl ?_)))))))
    refine WT.pure 8 rfl (by kernel_rfl) (fun w' => run_move) rfl rfl (WT.pure 9 rfl (by kernel_rfl) (fun w' => run_move) rfl rfl (WT.pure 10 rfl (by kernel_rfl) (fun w' => (run_indexAddr underlying129 sizeOf23 rfl rfl (by omega) (by omega))) rfl rfl (WT.load1 11 rfl (by kernel_rfl) isAgg23 rfl (RowU.cellZ h (by omega) (by omega)) rfl rfl (WT.pure 12 rfl (by kernel_rfl) (fun w' => (run_indexAddr underlying129 sizeOf23 rfl rfl (by omega) (by omega))) rfl rfl (WT.eff 13 [false, false] rfl (by kernel_rfl) (by kernel_rfl) (eff_setRK (RowU.cellQ (i := k) h (by omega) (by omega)) h sizeOf23 rfl rfl (by omega) (by omega) (RowU.cellQ h (by omega) (by omega))) rfl rfl ?_)))))
    rintro _ w ⟨hqK, h⟩
    refine ⟨trivial, ?_⟩
    refine WT.pure 14 rfl (by kernel_rfl) (fun w' => (run_indexAddr underlying129 sizeOf23 rfl rfl (by omega) (by omega))) rfl rfl (WT.eff 15 [] rfl (by kernel_rfl) (by kernel_rfl) (eff_setR h sizeOf23 rfl rfl (by omega) (by omega) hqK) rfl rfl ?_)
    rintro _ w h
    refine ⟨trivial, ?_⟩
    refine WT.done (by kernel_rfl) (W.seq (W.region (WL.val run_move rfl rfl (WL.val run_assign rfl rfl (WL.val run_assign rfl rfl (WL.nil (W.ret ?_)))))))
    refine bodyQ.r2 (v1 := .int .i64 _) (v2 := .bool _) results159 rfl rfl ?_
    exact ⟨_, _, by omega, by omega, rfl, h⟩
   refine W.skip (W.seq ?_)
   refine W.draw Tryz.follows h (fun w h => ?_)
   refine WT.pure 0 rfl (by kernel_rfl) (fun w' => run_move) rfl rfl (WT.pure 1 rfl (by kernel_rfl) (fun w' => run_move) rfl rfl (WT.pure 2 rfl (by kernel_rfl) (fun w' => run_move) rfl rfl (WT.pure 3 rfl (by kernel_rfl) (fun w' => run_move) rfl rfl (WT.pure 4 rfl (by kernel_rfl) (fun w' => run_move) rfl rfl (WT.pure 5 rfl (by kernel_rfl) (fun w' => run_move) rfl rfl (WT.pure 6 rfl (by kernel_rfl) (fun w' => (run_indexAddr underlying129 sizeOf23 rfl rfl (by omega) (by omega))) rfl rfl (WT.load1 7 rfl (by kernel_rfl) isAgg23 rfl (RowU.cellZ h (by omega) (by omega)) rfl rfl ?_)))))))
   refine WT.pure 8 rfl (by kernel_rfl) (fun w' => run_move) rfl rfl (WT.pure 9 rfl (by kernel_rfl) (fun w' => run_move) rfl rfl (WT.pure 10 rfl (by kernel_rfl) (fun w' => (run_indexAddr underlying129 sizeOf23 rfl rfl (by omega) (by omega))) rfl rfl (WT.load1 11 rfl (by kernel_rfl) isAgg23 rfl (RowU.cellZ h (by omega) (by omega)) rfl rfl (WT.pure 12 rfl (by kernel_rfl) (fun w' => (run_indexAddr underlying129 sizeOf23 rfl rfl (by omega) (by omega))) rfl rfl (WT.eff 13 [false, false] rfl (by kernel_rfl) (by kernel_rfl) (eff_setRK (RowU.cellQ (i := i) h (by omega) (by omega)) h sizeOf23 rfl rfl (by omega) (by omega) (RowU.cellQ h (by omega) (by omega))) rfl rfl ?_)))))
   rintro _ w ⟨hqK, h⟩
   refine ⟨trivial, ?_⟩
   refine WT.pure 14 rfl (by kernel_rfl) (fun w' => (run_indexAddr underlying129 sizeOf23 rfl rfl (by omega) (by omega))) rfl rfl (WT.eff 15 [] rfl (by kernel_rfl) (by kernel_rfl) (eff_setR h sizeOf23 rfl rfl (by omega) (by omega) hqK) rfl rfl ?_)
   rintro _ w h
   refine ⟨trivial, ?_⟩
   refine WT.done (by kernel_rfl) (W.seq (W.region (WL.val run_move rfl rfl (WL.val (run_add rfl rfl (by omega) (by omega)) rfl rfl (WL.val run_assign rfl rfl (WL.nil (W.region ?_)))))))
   refine WL.val run_move rfl rfl (WL.val (run_sub rfl rfl (by omega) (by omega)) rfl rfl (WL.val run_assign rfl rfl (WL.nil ?_)))
   exact ⟨(i + 1, k - 1), ⟨by (try dsimp only); omega, _, mkE_of ⟨rfl, rfl, rfl, rfl, trivial⟩, h⟩, by show (k - 1 + 1 - (i + 1)).toNat < (j0 + 1 - i0).toNat; omega⟩
  refine WT.pure 3 rfl (by kernel_rfl) (fun w' => run_move) rfl rfl (WT.skip 4 rfl (by kernel_rfl) rfl rfl (WT.skip 5 rfl (by kernel_rfl) rfl rfl (WT.skip 6 rfl (by kernel_rfl) rfl rfl (WT.skip 7 rfl (by kernel_rfl) rfl rfl (WT.skip 8 rfl (by kernel_rfl) rfl rfl (WT.skip 9 rfl (by kernel_rfl) rfl rfl (WT.skip 10 rfl (by kernel_rfl) rfl rfl ?_)))))))
  refine WT.skip 11 rfl (by kernel_rfl) rfl rfl (WT.skip 12 rfl (by kernel_rfl) rfl rfl (WT.pure 13 rfl (by kernel_rfl) (fun w' => (run_pickF rfl)) rfl rfl (WT.done (by kernel_rfl) (W.condF rfl (W.exit (W.seq (W.block ?_)))))))
  refine W.loop (fun (s : Int) env w => (a ≤ s ∧ s ≤ j0 ∧ (i ≤ s + 1 ∨ s = j0)) ∧ ∃ jk, env = mkE jk [(0, .slice (some ⟨bd, od, none⟩) n cp), (1, .int .i64 a), (10, .int .i64 i), (11, .int .i64 s)] ∧ On W0 (RowU Q (.slice (some ⟨bd, od, none⟩) n cp) n :: L) w) (fun s => (s + 1 - i).toNat) (j0) ?_ ?_
  · exact ⟨by (try dsimp only); omega, _, mkE_of ⟨rfl, rfl, rfl, rfl, trivial⟩, h⟩
  rintro k env w ⟨hI14, jk, rfl, h⟩
  refine W.seq (W.seq ?_)
  refine W.draw Tryz.follows h (fun w h => ?_)
  refine WT.pure 0 rfl (by kernel_rfl) (fun w' => run_move) rfl rfl (WT.pure 1 rfl (by kernel_rfl) (fun w' => run_move) rfl rfl ?_)
  refine WT.dec 2 rfl (by kernel_rfl) (fun w' => (run_leq rfl rfl)) rfl rfl (fun c117 => ?_) (fun c117 => ?_)
  ·
   refine WT.pure 3 rfl (by kernel_rfl) (fun w' => run_move) rfl rfl (WT.pure 4 rfl (by kernel_rfl) (fun w' => run_move) rfl rfl (WT.pure 5 rfl (by kernel_rfl) (fun w' => run_move) rfl rfl (WT.pure 6 rfl (by kernel_rfl) (fun w' => (run_indexAddr underlying129 sizeOf23 rfl rfl (by omega) (by omega))) rfl rfl (WT.load1 7 rfl (by kernel_rfl) isAgg23 rfl (RowU.cellZ h (by omega) (by omega)) rfl rfl (WT.pure 8 rfl (by kernel_rfl) (fun w' => run_move) rfl rfl (WT.pure 9 rfl (by kernel_rfl) (fun w' => run_move) rfl rfl (WT.pure 10 rfl (by kernel_rfl) (fun w' => (run_indexAddr underlying129 sizeOf23 rfl rfl (by omega) (by omega))) rfl rfl ?_)))))))
   refine WT.load1 11 rfl (by kernel_rfl) isAgg23 rfl (RowU.cellZ h (by omega) (by omega)) rfl rfl (WT.eff 12 [false, false] rfl (by kernel_rfl) (by kernel_rfl) (eff_call call157 (less_ok h)) rfl rfl ?_)
   rintro _ w ⟨⟨b127, rfl⟩, h⟩
   refine ⟨trivial, ?_⟩
   refine WT.pure 13 rfl (by kernel_rfl) (fun w' => (run_not rfl)) rfl rfl (WT.pure 14 rfl (by kernel_rfl) (fun w' => (run_pickT rfl)) rfl rfl (WT.done (by kernel_rfl) ?_))
   refine W.condB rfl (fun c42 => ?_) (fun c42 => ?_)
   ·
    refine W.skip (W.block (W.region (WL.val run_move rfl rfl (WL.val (run_sub rfl rfl (by omega) (by omega)) rfl rfl (WL.val run_assign rfl rfl (WL.nil ?_))))))
    exact ⟨k - 1, ⟨by (try dsimp only); omega, _, mkE_of ⟨rfl, rfl, rfl, rfl, trivial⟩, h⟩, by show (k - 1 + 1 - i).toNat < (k + 1 - i).toNat; omega⟩
   refine W.exit (W.seq (W.seq (W.region (WL.val run_move rfl rfl (WL.val run_move rfl rfl (WL.val (run_gtr rfl rfl) rfl rfl (WL.nil ?_)))))))
   refine W.condIf rfl (fun c48 => ?_) (fun c48 => ?_)
   ·
    refine W.exit (W.seq ?_)
    refine W.draw Tryz.follows h (fun w h => ?_)
    refine WT.pure 0 rfl (by kernel_rfl) (fun w' => run_move) rfl rfl (WT.pure 1 rfl (by kernel_rfl) (fun w' => run_move) rfl rfl (WT.pure 2 rfl (by kernel_rfl) (fun w' => run_move) rfl rfl (WT.pure 3 rfl (by kernel_rfl) (fun w' => run_move) rfl rfl (WT.pure 4 rfl (by kernel_rfl) (fun w' => run_move) rfl rfl (WT.pure 5 rfl (by kernel_rfl) (fun w' => run_move) rfl rfl (WT.pure 6 rfl (by kernel_rfl) (fun w' => (run_indexAddr underlying129 sizeOf23 rfl rfl (by omega) (by omega))) rfl rfl (WT.load1 7 rfl (by kernel_rfl) isAgg23 rfl (RowU.cellZ h (by omega) (by omega)) rfl rfl ?_)))))))
    refine WT.pure 8 rfl (by kernel_rfl) (fun w' => run_move) rfl rfl (WT.pure 9 rfl (by kernel_rfl) (fun w' => run_move) rfl rfl (WT.pure 10 rfl (by kernel_rfl) (fun w' => (run_indexAddr underlying129 sizeOf23 rfl rfl (by omega) (by omega))) rfl rfl (WT.load1 11 rfl (by kernel_rfl) isAgg23 rfl (RowU.cellZ h (by omega) (by omega)) rfl rfl (WT.pure 12 rfl (by kernel_rfl) (fun w' => (run_indexAddr underlying129 sizeOf23 rfl rfl (by omega) (by omega))) rfl rfl (WT.eff 13 [false, false] rfl (by kernel_rfl) (by kernel_rfl) (eff_setRK (RowU.cellQ (i := k) h (by omega) (by omega)) h sizeOf23 rfl rfl (by omega) (by omega) (RowU.cellQ h (by omega) (by omega))) rfl rfl ?_)))))
    rintro _ w ⟨hqK, h⟩
    refine ⟨trivial, ?_⟩
    refine WT.pure 14 rfl (by kernel_rfl) (fun w' => (run_indexAddr underlying129 sizeOf23 rfl rfl (by omega) (by omega))) rfl rfl (WT.eff 15 [] rfl (by kernel_rfl) (by kernel_rfl) (eff_setR h sizeOf23 rfl rfl (by omega) (by omega) hqK) rfl rfl ?_)
    rintro _ w h
    refine ⟨trivial, ?_⟩
    refine WT.done (by kernel_rfl) (W.seq (W.region (WL.val run_move rfl rfl (WL.val run_assign rfl rfl (WL.val run_assign rfl rfl (WL.nil (W.ret ?_)))))))
    refine bodyQ.r2 (v1 := .int .i64 _) (v2 := .bool _) results159 rfl rfl ?_
    exact ⟨_, _, by omega, by omega, rfl, h⟩
   refine W.skip (W.seq ?_)
   refine W.draw Tryz.follows h (fun w h => ?_)
   refine WT.pure 0 rfl (by kernel_rfl) (fun w' => run_move) rfl rfl (WT.pure 1 rfl (by kernel_rfl) (fun w' => run_move) rfl rfl (WT.pure 2 rfl (by kernel_rfl) (fun w' => run_move) rfl rfl (WT.pure 3 rfl (by kernel_rfl) (fun w' => run_move) rfl rfl (WT.pure 4 rfl (by kernel_rfl) (fun w' => run_move) rfl rfl (WT.pure 5 rfl (by kernel_rfl) (fun w' => run_move) rfl rfl (WT.pure 6 rfl (by kernel_rfl) (fun w' => (run_indexAddr underlying129 sizeOf23 rfl rfl (by omega) (by omega))) rfl rfl (WT.load1 7 rfl (by kernel_rfl) isAgg23 rfl (RowU.cellZ h (by omega) (by omega)) rfl rfl ?_)))))))
   refine WT.pure 8 rfl (by kernel_rfl) (fun w' => run_move) rfl rfl (WT.pure 9 rfl (by kernel_rfl) (fun w' => run_move) rfl rfl (WT.pure 10 rfl (by kernel_rfl) (fun w' => (run_indexAddr underlying129 sizeOf23 rfl rfl (by omega) (by omega))) rfl rfl (WT.load1 11 rfl (by kernel_rfl) isAgg23 rfl (RowU.cellZ h (by omega) (by omega)) rfl rfl (WT.pure 12 rfl (by kernel_rfl) (fun w' => (run_indexAddr underlying129 sizeOf23 rfl rfl (by omega) (by omega))) rfl rfl (WT.eff 13 [false, false] rfl (by kernel_rfl) (by kernel_rfl) (eff_setRK (RowU.cellQ (i := i) h (by omega) (by omega)) h sizeOf23 rfl rfl (by omega) (by omega) (RowU.cellQ h (by omega) (by omega))) rfl rfl ?_)))))
   rintro _ w ⟨hqK, h⟩
   refine ⟨trivial, ?_⟩
   refine WT.pure 14 rfl (by kernel_rfl) (fun w' => (run_indexAddr underlying129 sizeOf23 rfl rfl (by omega) (by omega))) rfl rfl (WT.eff 15 [] rfl (by kernel_rfl) (by kernel_rfl) (eff_setR h sizeOf23 rfl rfl (by omega) (by omega) hqK) rfl rfl ?_)
   rintro _ w h
   refine ⟨trivial, ?_⟩
   refine WT.done (by kernel_rfl) (W.seq (W.region (WL.val run_move rfl rfl (WL.val (run_add rfl rfl (by omega) (by omega)) rfl rfl (WL.val run_assign rfl rfl (WL.nil (W.region ?_)))))))
   refine WL.val run_move rfl rfl (WL.val (run_sub rfl rfl (by omega) (by omega)) rfl rfl (WL.val run_assign rfl rfl (WL.nil ?_)))
   exact ⟨(i + 1, k - 1), ⟨by (try dsimp only); omega, _, mkE_of ⟨rfl, rfl, rfl, rfl, trivial⟩, h⟩, by show (k - 1 + 1 - (i + 1)).toNat < (j0 + 1 - i0).toNat; omega⟩
  refine WT.pure 3 rfl (by kernel_rfl) (fun w' => run_move) rfl rfl (WT.skip 4 rfl (by kernel_rfl) rfl rfl (WT.skip 5 rfl (by kernel_rfl) rfl rfl (WT.skip 6 rfl (by kernel_rfl) rfl rfl (WT.skip 7 rfl (by kernel_rfl) rfl rfl (WT.skip 8 rfl (by kernel_rfl) rfl rfl (WT.skip 9 rfl (by kernel_rfl) rfl rfl (WT.skip 10 rfl (by kernel_rfl) rfl rfl ?_)))))))
  refine WT.skip 11 rfl (by kernel_rfl) rfl rfl (WT.skip 12 rfl (by kernel_rfl) rfl rfl (WT.skip 13 rfl (by kernel_rfl) rfl rfl (WT.pure 14 rfl (by kernel_rfl) (fun w' => (run_pickF rfl)) rfl rfl (WT.done (by kernel_rfl) (W.condF rfl (W.exit (W.seq ?_)))))))
  refine W.seq (W.region (WL.val run_move rfl rfl (WL.val run_move rfl rfl (WL.val (run_gtr rfl rfl) rfl rfl (WL.nil ?_)))))
  refine W.condIf rfl (fun c48 => ?_) (fun c48 => ?_)
  ·
   refine W.exit (W.seq ?_)
   refine W.draw Tryz.follows h (fun w h => ?_)
   refine WT.pure 0 rfl (by kernel_rfl) (fun w' => run_move) rfl rfl (WT.pure 1 rfl (by kernel_rfl) (fun w' => run_move) rfl rfl (WT.pure 2 rfl (by kernel_rfl) (fun w' => run_move) rfl rfl (WT.pure 3 rfl (by kernel_rfl) (fun w' => run_move) rfl rfl (WT.pure 4 rfl (by kernel_rfl) (fun w' => run_move) rfl rfl (WT.pure 5 rfl (by kernel_rfl) (fun w' => run_move) rfl rfl (WT.pure 6 rfl (by kernel_rfl) (fun w' => (run_indexAddr underlying129 sizeOf23 rfl rfl (by omega) (by omega))) rfl rfl (WT.load1 7 rfl (by kernel_rfl) isAgg23 rfl (RowU.cellZ h (by omega) (by omega)) rfl rfl ?_)))))))
   refine WT.pure 8 rfl (by kernel_rfl) (fun w' => run_move) rfl rfl (WT.pure 9 rfl (by kernel_rfl) (fun w' => run_move) rfl rfl (WT.pure 10 rfl (by kernel_rfl) (fun w' => (run_indexAddr underlying129 sizeOf23 rfl rfl (by omega) (by omega))) rfl rfl (WT.load1 11 rfl (by kernel_rfl) isAgg23 rfl (RowU.cellZ h (by omega) (by omega)) rfl rfl (WT.pure 12 rfl (by kernel_rfl) (fun w' => (run_indexAddr underlying129 sizeOf23 rfl rfl (by omega) (by omega))) rfl rfl (WT.eff 13 [false, false] rfl (by kernel_rfl) (by kernel_rfl) (eff_setRK (RowU.cellQ (i := k) h (by omega) (by omega)) h sizeOf23 rfl rfl (by omega) (by omega) (RowU.cellQ h (by omega) (by omega))) rfl rfl ?_)))))
   rintro _ w ⟨hqK, h⟩
   refine ⟨trivial, ?_⟩
   refine WT.pure 14 rfl (by kernel_rfl) (fun w' => (run_indexAddr underlying129 sizeOf23 rfl rfl (by omega) (by omega))) rfl rfl (WT.eff 15 [] rfl (by kernel_rfl) (by kernel_rfl) (eff_setR h sizeOf23 rfl rfl (by omega) (by omega) hqK) rfl rfl ?_)
   rintro _ w h
   refine ⟨trivial, ?_⟩
   refine WT.done (by kernel_rfl) (W.seq (W.region (WL.val run_move rfl rfl (WL.val run_assign rfl rfl (WL.val run_assign rfl rfl (WL.nil (W.ret ?_)))))))
   refine bodyQ.r2 (v1 := .int .i64 _) (v2 := .bool _) results159 rfl rfl ?_
   exact ⟨_, _, by omega, by omega, rfl, h⟩
  refine W.skip (W.seq ?_)
  refine W.draw Tryz.follows h (fun w h => ?_)
  refine WT.pure 0 rfl (by kernel_rfl) (fun w' => run_move) rfl rfl (WT.pure 1 rfl (by kernel_rfl) (fun w' => run_move) rfl rfl (WT.pure 2 rfl (by kernel_rfl) (fun w' => run_move) rfl rfl (WT.pure 3 rfl (by kernel_rfl) (fun w' => run_move) rfl rfl (WT.pure 4 rfl (by kernel_rfl) (fun w' => run_move) rfl rfl (WT.pure 5 rfl (by kernel_rfl) (fun w' => run_move) rfl rfl (WT.pure 6 rfl (by kernel_rfl) (fun w' => (run_indexAddr underlying129 sizeOf23 rfl rfl (by omega) (by omega))) rfl rfl (WT.load1 7 rfl (by kernel_rfl) isAgg23 rfl (RowU.cellZ h (by omega) (by omega)) rfl rfl ?_)))))))
  refine WT.pure 8 rfl (by kernel_rfl) (fun w' => run_move) rfl rfl (WT.pure 9 rfl (by kernel_rfl) (fun w' => run_move) rfl rfl (WT.pure 10 rfl (by kernel_rfl) (fun w' => (run_indexAddr underlying129 sizeOf23 rfl rfl (by omega) (by omega))) rfl rfl (WT.load1 11 rfl (by kernel_rfl) isAgg23 rfl (RowU.cellZ h (by omega) (by omega)) rfl rfl (WT.pure 12 rfl (by kernel_rfl) (fun w' => (run_indexAddr underlying129 sizeOf23 rfl rfl (by omega) (by omega))) rfl rfl (WT.eff 13 [false, false] rfl (by kernel_rfl) (by kernel_rfl) (eff_setRK (RowU.cellQ (i := i) h (by omega) (by omega)) h sizeOf23 rfl rfl (by omega) (by omega) (RowU.cellQ h (by omega) (by omega))) rfl rfl ?_)))))
  rintro _ w ⟨hqK, h⟩
  refine ⟨trivial, ?_⟩
  refine WT.pure 14 rfl (by kernel_rfl) (fun w' => (run_indexAddr underlying129 sizeOf23 rfl rfl (by omega) (by omega))) rfl rfl (WT.eff 15 [] rfl (by kernel_rfl) (by kernel_rfl) (eff_setR h sizeOf23 rfl rfl (by omega) (by omega) hqK) rfl rfl ?_)
  rintro _ w h
  refine ⟨trivial, ?_⟩
  refine WT.done (by kernel_rfl) (W.seq (W.region (WL.val run_move rfl rfl (WL.val (run_add rfl rfl (by omega) (by omega)) rfl rfl (WL.val run_assign rfl rfl (WL.nil (W.region ?_)))))))
  refine WL.val run_move rfl rfl (WL.val (run_sub rfl rfl (by omega) (by omega)) rfl rfl (WL.val run_assign rfl rfl (WL.nil ?_)))
  exact ⟨(i + 1, k - 1), ⟨by (try dsimp only); omega, _, mkE_of ⟨rfl, rfl, rfl, rfl, trivial⟩, h⟩, by show (k - 1 + 1 - (i + 1)).toNat < (j0 + 1 - i0).toNat; omega⟩
theorem reverse_ok {bd od n cp : Nat} {a b : Int} (h0 : 0 ≤ a) (h1 : a ≤ b) (h2 : b ≤ (n : Int)) (hn : n < 65536) (h : On W0 (RowU Q (.slice (some ⟨bd, od, none⟩) n cp) n :: L) w) : Calls Tryz.prog 155 #[.slice (some ⟨bd, od, none⟩) n cp, .int .i64 a, .int .i64 b] w (Ret fun v w' => On W0 (RowU Q (.slice (some ⟨bd, od, none⟩) n cp) n :: L) w') := by
  refine enter func155 rfl ntmps155 rfl ?_
  have hmx := maxLen_eq
  refine W.seq (W.region (WL.val run_move rfl rfl (WL.val run_assign rfl rfl (WL.nil (W.seq (W.region (WL.val run_move rfl rfl ?_)))))))
  refine WL.val (run_sub rfl rfl (by omega) (by omega)) rfl rfl (WL.val run_assign rfl rfl (WL.nil (W.block ?_)))
  refine W.loop (fun (s : Int × Int) env w => (a ≤ s.1 ∧ s.2 < b) ∧ ∃ jk, env = mkE jk [(0, .slice (some ⟨bd, od, none⟩) n cp), (6, .int .i64 s.1), (7, .int .i64 s.2)] ∧ On W0 (RowU Q (.slice (some ⟨bd, od, none⟩) n cp) n :: L) w) (fun s => (s.2 - s.1).toNat) ((a, b - 1)) ?_ ?_
  · exact ⟨by (try dsimp only); omega, _, mkE_of ⟨rfl, rfl, rfl, trivial⟩, h⟩
  rintro ⟨i, k⟩ env w ⟨hI15, jk, rfl, h⟩
  try dsimp only at hI15
  refine W.seq (W.seq (W.region (WL.val run_move rfl rfl (WL.val run_move rfl rfl (WL.val (run_lss rfl rfl) rfl rfl (WL.nil ?_))))))
  refine W.condIf rfl (fun c5 => ?_) (fun c5 => ?_)
  ·
   refine W.skip (W.block (W.seq ?_))
   refine W.draw Tryz.follows h (fun w h => ?_)
   refine WT.pure 0 rfl (by kernel_rfl) (fun w' => run_move) rfl rfl (WT.pure 1 rfl (by kernel_rfl) (fun w' => run_move) rfl rfl (WT.pure 2 rfl (by kernel_rfl) (fun w' => run_move) rfl rfl (WT.pure 3 rfl (by kernel_rfl) (fun w' => run_move) rfl rfl (WT.pure 4 rfl (by kernel_rfl) (fun w' => run_move) rfl rfl (WT.pure 5 rfl (by kernel_rfl) (fun w' => run_move) rfl rfl (WT.pure 6 rfl (by kernel_rfl) (fun w' => (run_indexAddr underlying129 sizeOf23 rfl rfl (by omega) (by omega))) rfl rfl (WT.load1 7 rfl (by kernel_rfl) isAgg23 rfl (RowU.cellZ h (by omega) (by omega)) rfl rfl ?_)))))))
   refine WT.pure 8 rfl (by kernel_rfl) (fun w' => run_move) rfl rfl (WT.pure 9 rfl (by kernel_rfl) (fun w' => run_move) rfl rfl (WT.pure 10 rfl (by kernel_rfl) (fun w' => (run_indexAddr underlying129 sizeOf23 rfl rfl (by omega) (by omega))) rfl rfl (WT.load1 11 rfl (by kernel_rfl) isAgg23 rfl (RowU.cellZ h (by omega) (by omega)) rfl rfl (WT.pure 12 rfl (by kernel_rfl) (fun w' => (run_indexAddr underlying129 sizeOf23 rfl rfl (by omega) (by omega))) rfl rfl (WT.eff 13 [false, false] rfl (by kernel_rfl) (by kernel_rfl) (eff_setRK (RowU.cellQ (i := i) h (by omega) (by omega)) h sizeOf23 rfl rfl (by omega) (by omega) (RowU.cellQ h (by omega) (by omega))) rfl rfl ?_)))))
   rintro _ w ⟨hqK, h⟩
   refine ⟨trivial, ?_⟩
   refine WT.pure 14 rfl (by kernel_rfl) (fun w' => (run_indexAddr underlying129 sizeOf23 rfl rfl (by omega) (by omega))) rfl rfl (WT.eff 15 [] rfl (by kernel_rfl) (by kernel_rfl) (eff_setR h sizeOf23 rfl rfl (by omega) (by omega) hqK) rfl rfl ?_)
   rintro _ w h
   refine ⟨trivial, ?_⟩
   refine WT.done (by kernel_rfl) (W.seq (W.region (WL.val run_move rfl rfl (WL.val (run_add rfl rfl (by omega) (by omega)) rfl rfl (WL.val run_assign rfl rfl (WL.nil (W.region ?_)))))))
   refine WL.val run_move rfl rfl (WL.val (run_sub rfl rfl (by omega) (by omega)) rfl rfl (WL.val run_assign rfl rfl (WL.nil ?_)))
   exact ⟨(i + 1, k - 1), ⟨by (try dsimp only); omega, _, mkE_of ⟨rfl, rfl, rfl, trivial⟩, h⟩, by show (k - 1 - (i + 1)).toNat < (k - i).toNat; omega⟩
  refine W.exit (bodyQ.fall (bodyQ.r0 results155 ?_))
  exact h
theorem partial_ok {bd od n cp : Nat} {a b : Int} (h0 : 0 ≤ a) (h1 : a < b) (h2 : b ≤ (n : Int)) (hn : n < 65536) (h : On W0 (RowU Q (.slice (some ⟨bd, od, none⟩) n cp) n :: L) w) : Calls Tryz.prog 156 #[.slice (some ⟨bd, od, none⟩) n cp, .int .i64 a, .int .i64 b] w (Ret fun v w' => ∃ r : Bool, v = .bool r ∧ On W0 (RowU Q (.slice (some ⟨bd, od, none⟩) n cp) n :: L) w') := by
  refine enter func156 rfl ntmps156 rfl ?_
  have hmx := maxLen_eq
  refine W.seq (W.region (WL.val run_assign rfl rfl (WL.nil (W.seq (W.region (WL.val run_move rfl rfl (WL.val (run_add rfl rfl (by omega) (by omega)) rfl rfl ?_)))))))
  refine WL.val run_assign rfl rfl (WL.nil (W.seq (W.seq (W.region (WL.val run_assign rfl rfl (WL.nil (W.block ?_)))))))
  refine W.loop (fun (s : Int × Int) env w => (a + 1 ≤ s.1 ∧ s.1 ≤ b ∧ 0 ≤ s.2) ∧ ∃ jk, env = mkE jk [(0, .slice (some ⟨bd, od, none⟩) n cp), (1, .int .i64 a), (2, .int .i64 b), (7, .int .i64 s.1), (8, .int .i64 s.2)] ∧ On W0 (RowU Q (.slice (some ⟨bd, od, none⟩) n cp) n :: L) w) (fun s => (5 - s.2).toNat) ((a + 1, 0)) ?_ ?_
  · exact ⟨by (try dsimp only); omega, _, mkE_of ⟨rfl, rfl, rfl, rfl, rfl, trivial⟩, h⟩
  rintro ⟨i0, t⟩ env w ⟨hI16, jk, rfl, h⟩
  try dsimp only at hI16
  refine W.seq (W.seq (W.region (WL.val run_move rfl rfl (WL.val (run_lss rfl rfl) rfl rfl (WL.nil ?_)))))
  refine W.condIf rfl (fun c6 => ?_) (fun c6 => ?_)
  ·
   refine W.skip ?_
   refine W.cut (fun env w => ∃ (i : Int), (i0 ≤ i ∧ i ≤ b) ∧ ∃ jk, env = mkE jk [(0, .slice (some ⟨bd, od, none⟩) n cp), (1, .int .i64 a), (2, .int .i64 b), (7, .int .i64 i), (8, .int .i64 t)] ∧ On W0 (RowU Q (.slice (some ⟨bd, od, none⟩) n cp) n :: L) w) ?_ ?_
   ·
    refine W.block (W.seq (W.block ?_))
    refine W.loop (fun (s : Int) env w => (i0 ≤ s ∧ s ≤ b) ∧ ∃ jk, env = mkE jk [(0, .slice (some ⟨bd, od, none⟩) n cp), (1, .int .i64 a), (2, .int .i64 b), (7, .int .i64 s), (8, .int .i64 t)] ∧ On W0 (RowU Q (.slice (some ⟨bd, od, none⟩) n cp) n :: L) w) (fun s => (b - s).toNat) (i0) ?_ ?_
    · exact ⟨by (try dsimp only); omega, _, mkE_of ⟨rfl, rfl, rfl, rfl, rfl, trivial⟩, h⟩
    rintro i env w ⟨hI17, jk, rfl, h⟩
    refine W.seq (W.seq ?_)
    refine W.draw Tryz.follows h (fun w h => ?_)
    refine WT.pure 0 rfl (by kernel_rfl) (fun w' => run_move) rfl rfl (WT.pure 1 rfl (by kernel_rfl) (fun w' => run_move) rfl rfl ?_)
    refine WT.dec 2 rfl (by kernel_rfl) (fun w' => (run_lss rfl rfl)) rfl rfl (fun c19 => ?_) (fun c19 => ?_)
    ·
     refine WT.pure 3 rfl (by kernel_rfl) (fun w' => run_move) rfl rfl (WT.pure 4 rfl (by kernel_rfl) (fun w' => run_move) rfl rfl (WT.pure 5 rfl (by kernel_rfl) (fun w' => run_move) rfl rfl (WT.pure 6 rfl (by kernel_rfl) (fun w' => (run_indexAddr underlying129 sizeOf23 rfl rfl (by omega) (by omega))) rfl rfl (WT.load1 7 rfl (by kernel_rfl) isAgg23 rfl (RowU.cellZ h (by omega) (by omega)) rfl rfl (WT.pure 8 rfl (by kernel_rfl) (fun w' => run_move) rfl rfl (WT.pure 9 rfl (by kernel_rfl) (fun w' => run_move) rfl rfl (WT.pure 10 rfl (by kernel_rfl) (fun w' => (run_sub rfl rfl (by omega) (by omega))) rfl rfl ?_)))))))
     refine WT.pure 11 rfl (by kernel_rfl) (fun w' => (run_indexAddr underlying129 sizeOf23 rfl rfl (by omega) (by omega))) rfl rfl (WT.load1 12 rfl (by kernel_rfl) isAgg23 rfl (RowU.cellZ h (by omega) (by omega)) rfl rfl (WT.eff 13 [false, false] rfl (by kernel_rfl) (by kernel_rfl) (eff_call call157 (less_ok h)) rfl rfl ?_))
     rintro _ w ⟨⟨b30, rfl⟩, h⟩
     refine ⟨trivial, ?_⟩
     refine WT.pure 14 rfl (by kernel_rfl) (fun w' => (run_not rfl)) rfl rfl (WT.pure 15 rfl (by kernel_rfl) (fun w' => (run_pickT rfl)) rfl rfl (WT.done (by kernel_rfl) ?_))
     refine W.condB rfl (fun c13 => ?_) (fun c13 => ?_)
     ·
      refine W.skip (W.block (W.region (WL.val run_move rfl rfl (WL.val (run_add rfl rfl (by omega) (by omega)) rfl rfl (WL.val run_assign rfl rfl (WL.nil ?_))))))
      exact ⟨i + 1, ⟨by (try dsimp only); omega, _, mkE_of ⟨rfl, rfl, rfl, rfl, rfl, trivial⟩, h⟩, by show (b - (i + 1)).toNat < (b - i).toNat; omega⟩
     refine W.exit (W.seq (W.seq (W.region (WL.val run_move rfl rfl (WL.val run_move rfl rfl (WL.val (run_eql rfl rfl) rfl rfl (WL.nil ?_)))))))
     refine W.condIf rfl (fun c19 => ?_) (fun c19 => ?_)
     ·
      refine W.seq (W.region (WL.val run_assign rfl rfl (WL.nil (W.ret (bodyQ.r1 (v := .bool _) results156 rfl ?_)))))
      exact ⟨_, rfl, h⟩
     refine W.skip (W.seq (W.seq (W.region (WL.val run_move rfl rfl (WL.val run_move rfl rfl (WL.val (run_sub rfl rfl (by omega) (by omega)) rfl rfl (WL.val (run_lss rfl rfl) rfl rfl ?_)))))))
     refine WL.nil ?_
     refine W.condIf rfl (fun c24 => ?_) (fun c24 => ?_)
     ·
      refine W.seq (W.region (WL.val run_assign rfl rfl (WL.nil (W.ret (bodyQ.r1 (v := .bool _) results156 rfl ?_)))))
      exact ⟨_, rfl, h⟩
     refine W.skip (W.seq ?_)
     refine W.draw Tryz.follows h (fun w h => ?_)
     refine WT.pure 0 rfl (by kernel_rfl) (fun w' => run_move) rfl rfl (WT.pure 1 rfl (by kernel_rfl) (fun w' => run_move) rfl rfl (WT.pure 2 rfl (by kernel_rfl) (fun w' => run_move) rfl rfl (WT.pure 3 rfl (by kernel_rfl) (fun w' => run_move) rfl rfl (WT.pure 4 rfl (by kernel_rfl) (fun w' => (run_sub rfl rfl (by omega) (by omega))) rfl rfl (WT.pure 5 rfl (by kernel_rfl) (fun w' => run_move) rfl rfl (WT.pure 6 rfl (by kernel_rfl) (fun w' => run_move) rfl rfl (WT.pure 7 rfl (by kernel_rfl) (fun w' => (run_sub rfl rfl (by omega) (by omega))) rfl rfl ?_)))))))
     refine WT.pure 8 rfl (by kernel_rfl) (fun w' => (run_indexAddr underlying129 sizeOf23 rfl rfl (by omega) (by omega))) rfl rfl (WT.load1 9 rfl (by kernel_rfl) isAgg23 rfl (RowU.cellZ h (by omega) (by omega)) rfl rfl (WT.pure 10 rfl (by kernel_rfl) (fun w' => run_move) rfl rfl (WT.pure 11 rfl (by kernel_rfl) (fun w' => run_move) rfl rfl (WT.pure 12 rfl (by kernel_rfl) (fun w' => (run_indexAddr underlying129 sizeOf23 rfl rfl (by omega) (by omega))) rfl rfl (WT.load1 13 rfl (by kernel_rfl) isAgg23 rfl (RowU.cellZ h (by omega) (by omega)) rfl rfl (WT.pure 14 rfl (by kernel_rfl) (fun w' => (run_indexAddr underlying129 sizeOf23 rfl rfl (by omega) (by omega))) rfl rfl (WT.eff 15 [false, false] rfl (by kernel_rfl) (by kernel_rfl) (eff_setRK (RowU.cellQ (i := i) h (by omega) (by omega)) h sizeOf23 rfl rfl (by omega) (by omega) (RowU.cellQ h (by omega) (by omega))) rfl rfl ?_)))))))
     rintro _ w ⟨hqK, h⟩
     refine ⟨trivial, ?_⟩
     refine WT.pure 16 rfl (by kernel_rfl) (fun w' => (run_indexAddr underlying129 sizeOf23 rfl rfl (by omega) (by omega))) rfl rfl (WT.eff 17 [] rfl (by kernel_rfl) (by kernel_rfl) (eff_setR h sizeOf23 rfl rfl (by omega) (by omega) hqK) rfl rfl ?_)
     rintro _ w h
     refine ⟨trivial, ?_⟩
     refine WT.done (by kernel_rfl) ?_
     refine W.cut (fun env w => (a ≤ b) ∧ ∃ jk, env = mkE jk [(0, .slice (some ⟨bd, od, none⟩) n cp), (1, .int .i64 a), (2, .int .i64 b), (7, .int .i64 i), (8, .int .i64 t)] ∧ On W0 (RowU Q (.slice (some ⟨bd, od, none⟩) n cp) n :: L) w) ?_ ?_
     ·
      refine W.seq (W.region (WL.val run_move rfl rfl (WL.val run_move rfl rfl (WL.val (run_sub rfl rfl (by omega) (by omega)) rfl rfl (WL.val (run_geq rfl rfl) rfl rfl (WL.nil ?_))))))
      refine W.condIf rfl (fun c30 => ?_) (fun c30 => ?_)
      ·
       refine W.seq (W.region (WL.val run_move rfl rfl (WL.val (run_sub rfl rfl (by omega) (by omega)) rfl rfl (WL.val run_assign rfl rfl (WL.nil (W.block ?_))))))
       refine W.loop (fun (s : Int) env w => (0 ≤ s ∧ s < i) ∧ ∃ jk, env = mkE jk [(0, .slice (some ⟨bd, od, none⟩) n cp), (1, .int .i64 a), (2, .int .i64 b), (7, .int .i64 i), (8, .int .i64 t), (9, .int .i64 s)] ∧ On W0 (RowU Q (.slice (some ⟨bd, od, none⟩) n cp) n :: L) w) (fun s => (s).toNat) (i - 1) ?_ ?_
       · exact ⟨by (try dsimp only); omega, _, mkE_of ⟨rfl, rfl, rfl, rfl, rfl, rfl, trivial⟩, h⟩
       rintro k env w ⟨hI19, jk, rfl, h⟩
       refine W.seq (W.seq (W.region (WL.val run_move rfl rfl (WL.val (run_geq rfl rfl) rfl rfl (WL.nil ?_)))))
       refine W.condIf rfl (fun c35 => ?_) (fun c35 => ?_)
       ·
        refine W.skip (W.seq (W.block (W.seq (W.seq ?_))))
        refine W.draw Tryz.follows h (fun w h => ?_)
        refine WT.pure 0 rfl (by kernel_rfl) (fun w' => run_move) rfl rfl (WT.pure 1 rfl (by kernel_rfl) (fun w' => run_move) rfl rfl (WT.pure 2 rfl (by kernel_rfl) (fun w' => (run_indexAddr underlying129 sizeOf23 rfl rfl (by omega) (by omega))) rfl rfl (WT.load1 3 rfl (by kernel_rfl) isAgg23 rfl (RowU.cellZ h (by omega) (by omega)) rfl rfl (WT.pure 4 rfl (by kernel_rfl) (fun w' => run_move) rfl rfl (WT.pure 5 rfl (by kernel_rfl) (fun w' => run_move) rfl rfl (WT.pure 6 rfl (by kernel_rfl) (fun w' => (run_sub rfl rfl (by omega) (by omega))) rfl rfl (WT.pure 7 rfl (by kernel_rfl) (fun w' => (run_indexAddr underlying129 sizeOf23 rfl rfl (by omega) (by omega))) rfl rfl ?_)))))))
        refine WT.load1 8 rfl (by kernel_rfl) isAgg23 rfl (RowU.cellZ h (by omega) (by omega)) rfl rfl (WT.eff 9 [false, false] rfl (by kernel_rfl) (by kernel_rfl) (eff_call call157 (less_ok h)) rfl rfl ?_)
        rintro _ w ⟨⟨b77, rfl⟩, h⟩
        refine ⟨trivial, ?_⟩
        refine WT.pure 10 rfl (by kernel_rfl) (fun w' => (run_not rfl)) rfl rfl (WT.done (by kernel_rfl) ?_)
        refine W.condB rfl (fun c40 => ?_) (fun c40 => ?_)
        ·
         refine W.exit ?_
         exact ⟨by omega, _, mkE_of ⟨rfl, rfl, rfl, rfl, rfl, trivial⟩, h⟩
        refine W.skip ?_
        refine W.draw Tryz.follows h (fun w h => ?_)
        refine WT.pure 0 rfl (by kernel_rfl) (fun w' => run_move) rfl rfl (WT.pure 1 rfl (by kernel_rfl) (fun w' => run_move) rfl rfl (WT.pure 2 rfl (by kernel_rfl) (fun w' => run_move) rfl rfl (WT.pure 3 rfl (by kernel_rfl) (fun w' => run_move) rfl rfl (WT.pure 4 rfl (by kernel_rfl) (fun w' => (run_sub rfl rfl (by omega) (by omega))) rfl rfl (WT.pure 5 rfl (by kernel_rfl) (fun w' => run_move) rfl rfl (WT.pure 6 rfl (by kernel_rfl) (fun w' => run_move) rfl rfl (WT.pure 7 rfl (by kernel_rfl) (fun w' => (run_sub rfl rfl (by omega) (by omega))) rfl rfl ?_)))))))
        refine WT.pure 8 rfl (by kernel_rfl) (fun w' => (run_indexAddr underlying129 sizeOf23 rfl rfl (by omega) (by omega))) rfl rfl (WT.load1 9 rfl (by kernel_rfl) isAgg23 rfl (RowU.cellZ h (by omega) (by omega)) rfl rfl (WT.pure 10 rfl (by kernel_rfl) (fun w' => run_move) rfl rfl (WT.pure 11 rfl (by kernel_rfl) (fun w' => run_move) rfl rfl (WT.pure 12 rfl (by kernel_rfl) (fun w' => (run_indexAddr underlying129 sizeOf23 rfl rfl (by omega) (by omega))) rfl rfl (WT.load1 13 rfl (by kernel_rfl) isAgg23 rfl (RowU.cellZ h (by omega) (by omega)) rfl rfl (WT.pure 14 rfl (by kernel_rfl) (fun w' => (run_indexAddr underlying129 sizeOf23 rfl rfl (by omega) (by omega))) rfl rfl (WT.eff 15 [false, false] rfl (by kernel_rfl) (by kernel_rfl) (eff_setRK (RowU.cellQ (i := k) h (by omega) (by omega)) h sizeOf23 rfl rfl (by omega) (by omega) (RowU.cellQ h (by omega) (by omega))) rfl rfl ?_)))))))
        rintro _ w ⟨hqK, h⟩
        refine ⟨trivial, ?_⟩
        refine WT.pure 16 rfl (by kernel_rfl) (fun w' => (run_indexAddr underlying129 sizeOf23 rfl rfl (by omega) (by omega))) rfl rfl (WT.eff 17 [] rfl (by kernel_rfl) (by kernel_rfl) (eff_setR h sizeOf23 rfl rfl (by omega) (by omega) hqK) rfl rfl ?_)
        rintro _ w h
        refine ⟨trivial, ?_⟩
        refine WT.done (by kernel_rfl) (W.region (WL.val run_move rfl rfl (WL.val (run_sub rfl rfl (by omega) (by omega)) rfl rfl (WL.val run_assign rfl rfl (WL.nil ?_)))))
        exact ⟨k - 1, ⟨by (try dsimp only); omega, _, mkE_of ⟨rfl, rfl, rfl, rfl, rfl, rfl, trivial⟩, h⟩, by show (k - 1).toNat < (k).toNat; omega⟩
       refine W.exit ?_
       exact ⟨by omega, _, mkE_of ⟨rfl, rfl, rfl, rfl, rfl, trivial⟩, h⟩
      refine W.skip ?_
      exact ⟨by omega, _, mkE_of ⟨rfl, rfl, rfl, rfl, rfl, trivial⟩, h⟩
     rintro env w ⟨hC18, jk, rfl, h⟩
     refine W.seq (W.region (WL.val run_move rfl rfl (WL.val run_move rfl rfl (WL.val (run_sub rfl rfl (by omega) (by omega)) rfl rfl (WL.val (run_geq rfl rfl) rfl rfl (WL.nil ?_))))))
     refine W.condIf rfl (fun c47 => ?_) (fun c47 => ?_)
     ·
      refine W.seq (W.region (WL.val run_move rfl rfl (WL.val (run_add rfl rfl (by omega) (by omega)) rfl rfl (WL.val run_assign rfl rfl (WL.nil (W.block ?_))))))
      refine W.loop (fun (s : Int) env w => (i + 1 ≤ s) ∧ ∃ jk, env = mkE jk [(0, .slice (some ⟨bd, od, none⟩) n cp), (1, .int .i64 a), (2, .int .i64 b), (7, .int .i64 i), (8, .int .i64 t), (10, .int .i64 s)] ∧ On W0 (RowU Q (.slice (some ⟨bd, od, none⟩) n cp) n :: L) w) (fun s => (b - s).toNat) (i + 1) ?_ ?_
      · exact ⟨by (try dsimp only); omega, _, mkE_of ⟨rfl, rfl, rfl, rfl, rfl, rfl, trivial⟩, h⟩
      rintro k env w ⟨hI21, jk, rfl, h⟩
      refine W.seq (W.seq (W.region (WL.val run_move rfl rfl (WL.val run_move rfl rfl (WL.val (run_lss rfl rfl) rfl rfl (WL.nil ?_))))))
      refine W.condIf rfl (fun c52 => ?_) (fun c52 => ?_)
      ·
       refine W.skip (W.seq (W.block (W.seq (W.seq ?_))))
       refine W.draw Tryz.follows h (fun w h => ?_)
       refine WT.pure 0 rfl (by kernel_rfl) (fun w' => run_move) rfl rfl (WT.pure 1 rfl (by kernel_rfl) (fun w' => run_move) rfl rfl (WT.pure 2 rfl (by kernel_rfl) (fun w' => (run_indexAddr underlying129 sizeOf23 rfl rfl (by omega) (by omega))) rfl rfl (WT.load1 3 rfl (by kernel_rfl) isAgg23 rfl (RowU.cellZ h (by omega) (by omega)) rfl rfl (WT.pure 4 rfl (by kernel_rfl) (fun w' => run_move) rfl rfl (WT.pure 5 rfl (by kernel_rfl) (fun w' => run_move) rfl rfl (WT.pure 6 rfl (by kernel_rfl) (fun w' => (run_sub rfl rfl (by omega) (by omega))) rfl rfl (WT.pure 7 rfl (by kernel_rfl) (fun w' => (run_indexAddr underlying129 sizeOf23 rfl rfl (by omega) (by omega))) rfl rfl ?_)))))))
       refine WT.load1 8 rfl (by kernel_rfl) isAgg23 rfl (RowU.cellZ h (by omega) (by omega)) rfl rfl (WT.eff 9 [false, false] rfl (by kernel_rfl) (by kernel_rfl) (eff_call call157 (less_ok h)) rfl rfl ?_)
       rintro _ w ⟨⟨b115, rfl⟩, h⟩
       refine ⟨trivial, ?_⟩
       refine WT.pure 10 rfl (by kernel_rfl) (fun w' => (run_not rfl)) rfl rfl (WT.done (by kernel_rfl) ?_)
       refine W.condB rfl (fun c57 => ?_) (fun c57 => ?_)
       ·
        refine W.exit ?_
        exact ⟨i, by omega, _, mkE_of ⟨rfl, rfl, rfl, rfl, rfl, trivial⟩, h⟩
       refine W.skip ?_
       refine W.draw Tryz.follows h (fun w h => ?_)
       refine WT.pure 0 rfl (by kernel_rfl) (fun w' => run_move) rfl rfl (WT.pure 1 rfl (by kernel_rfl) (fun w' => run_move) rfl rfl (WT.pure 2 rfl (by kernel_rfl) (fun w' => run_move) rfl rfl (WT.pure 3 rfl (by kernel_rfl) (fun w' => run_move) rfl rfl (WT.pure 4 rfl (by kernel_rfl) (fun w' => (run_sub rfl rfl (by omega) (by omega))) rfl rfl (WT.pure 5 rfl (by kernel_rfl) (fun w' => run_move) rfl rfl (WT.pure 6 rfl (by kernel_rfl) (fun w' => run_move) rfl rfl (WT.pure 7 rfl (by kernel_rfl) (fun w' => (run_sub rfl rfl (by omega) (by omega))) rfl rfl ?_)))))))
       refine WT.pure 8 rfl (by kernel_rfl) (fun w' => (run_indexAddr underlying129 sizeOf23 rfl rfl (by omega) (by omega))) rfl rfl (WT.load1 9 rfl (by kernel_rfl) isAgg23 rfl (RowU.cellZ h (by omega) (by omega)) rfl rfl (WT.pure 10 rfl (by kernel_rfl) (fun w' => run_move) rfl rfl (WT.pure 11 rfl (by kernel_rfl) (fun w' => run_move) rfl rfl (WT.pure 12 rfl (by kernel_rfl) (fun w' => (run_indexAddr underlying129 sizeOf23 rfl rfl (by omega) (by omega))) rfl rfl (WT.load1 13 rfl (by kernel_rfl) isAgg23 rfl (RowU.cellZ h (by omega) (by omega)) rfl rfl (WT.pure 14 rfl (by kernel_rfl) (fun w' => (run_indexAddr underlying129 sizeOf23 rfl rfl (by omega) (by omega))) rfl rfl (WT.eff 15 [false, false] rfl (by kernel_rfl) (by kernel_rfl) (eff_setRK (RowU.cellQ (i := k) h (by omega) (by omega)) h sizeOf23 rfl rfl (by omega) (by omega) (RowU.cellQ h (by omega) (by omega))) rfl rfl ?_)))))))
       rintro _ w ⟨hqK, h⟩
       refine ⟨trivial, ?_⟩
       refine WT.pure 16 rfl (by kernel_rfl) (fun w' => (run_indexAddr underlying129 sizeOf23 rfl rfl (by omega) (by omega))) rfl rfl (WT.eff 17 [] rfl (by kernel_rfl) (by kernel_rfl) (eff_setR h sizeOf23 rfl rfl (by omega) (by omega) hqK) rfl rfl ?_)
       rintro _ w h
       refine ⟨trivial, ?_⟩
       refine WT.done (by kernel_rfl) (W.region (WL.val run_move rfl rfl (WL.val (run_add rfl rfl (by omega) (by omega)) rfl rfl (WL.val run_assign rfl rfl (WL.nil ?_)))))
       exact ⟨k + 1, ⟨by (try dsimp only); omega, _, mkE_of ⟨rfl, rfl, rfl, rfl, rfl, rfl, trivial⟩, h⟩, by show (b - (k + 1)).toNat < (b - k).toNat; omega⟩
      refine W.exit ?_
      exact ⟨i, by omega, _, mkE_of ⟨rfl, rfl, rfl, rfl, rfl, trivial⟩, h⟩
     refine W.skip ?_
     exact ⟨i, by omega, _, mkE_of ⟨rfl, rfl, rfl, rfl, rfl, trivial⟩, h⟩
    refine WT.pure 3 rfl (by kernel_rfl) (fun w' => run_move) rfl rfl (WT.skip 4 rfl (by kernel_rfl) rfl rfl (WT.skip 5 rfl (by kernel_rfl) rfl rfl (WT.skip 6 rfl (by kernel_rfl) rfl rfl (WT.skip 7 rfl (by kernel_rfl) rfl rfl (WT.skip 8 rfl (by kernel_rfl) rfl rfl (WT.skip 9 rfl (by kernel_rfl) rfl rfl (WT.skip 10 rfl (by kernel_rfl) rfl rfl ?_)))))))
    refine WT.skip 11 rfl (by kernel_rfl) rfl rfl (WT.skip 12 rfl (by kernel_rfl) rfl rfl (WT.skip 13 rfl (by kernel_rfl) rfl rfl (WT.skip 14 rfl (by kernel_rfl) rfl rfl (WT.pure 15 rfl (by kernel_rfl) (fun w' => (run_pickF rfl)) rfl rfl (WT.done (by kernel_rfl) (W.condF rfl (W.exit ?_)))))))
    refine W.seq (W.seq (W.region (WL.val run_move rfl rfl (WL.val run_move rfl rfl (WL.val (run_eql rfl rfl) rfl rfl (WL.nil ?_))))))
    refine W.condIf rfl (fun c19 => ?_) (fun c19 => ?_)
    ·
     refine W.seq (W.region (WL.val run_assign rfl rfl (WL.nil (W.ret (bodyQ.r1 (v := .bool _) results156 rfl ?_)))))
     exact ⟨_, rfl, h⟩
    refine W.skip (W.seq (W.seq (W.region (WL.val run_move rfl rfl (WL.val run_move rfl rfl (WL.val (run_sub rfl rfl (by omega) (by omega)) rfl rfl (WL.val (run_lss rfl rfl) rfl rfl ?_)))))))
    refine WL.nil ?_
    refine W.condIf rfl (fun c24 => ?_) (fun c24 => ?_)
    ·
     refine W.seq (W.region (WL.val run_assign rfl rfl (WL.nil (W.ret (bodyQ.r1 (v := .bool _) results156 rfl ?_)))))
     exact ⟨_, rfl, h⟩
    refine W.skip (W.seq ?_)
    refine W.draw Tryz.follows h (fun w h => ?_)
    refine WT.pure 0 rfl (by kernel_rfl) (fun w' => run_move) rfl rfl (WT.pure 1 rfl (by kernel_rfl) (fun w' => run_move) rfl rfl (WT.pure 2 rfl (by kernel_rfl) (fun w' => run_move) rfl rfl (WT.pure 3 rfl (by kernel_rfl) (fun w' => run_move) rfl rfl (WT.pure 4 rfl (by kernel_rfl) (fun w' => (run_sub rfl rfl (by omega) (by omega))) rfl rfl (WT.pure 5 rfl (by kernel_rfl) (fun w' => run_move) rfl rfl (WT.pure 6 rfl (by kernel_rfl) (fun w' => run_move) rfl rfl (WT.pure 7 rfl (by kernel_rfl) (fun w' => (run_sub rfl rfl (by omega) (by omega))) rfl rfl ?_)))))))
    refine WT.pure 8 rfl (by kernel_rfl) (fun w' => (run_indexAddr underlying129 sizeOf23 rfl rfl (by omega) (by omega))) rfl rfl (WT.load1 9 rfl (by kernel_rfl) isAgg23 rfl (RowU.cellZ h (by omega) (by omega)) rfl rfl (WT.pure 10 rfl (by kernel_rfl) (fun w' => run_move) rfl rfl (WT.pure 11 rfl (by kernel_rfl) (fun w' => run_move) rfl rfl (WT.pure 12 rfl (by kernel_rfl) (fun w' => (run_indexAddr underlying129 sizeOf23 rfl rfl (by omega) (by omega))) rfl rfl (WT.load1 13 rfl (by kernel_rfl) isAgg23 rfl (RowU.cellZ h (by omega) (by omega)) rfl rfl (WT.pure 14 rfl (by kernel_rfl) (fun w' => (run_indexAddr underlying129 sizeOf23 rfl rfl (by omega) (by omega))) rfl rfl (WT.eff 15 [false, false] rfl (by kernel_rfl) (by kernel_rfl) (eff_setRK (RowU.cellQ (i := i) h (by omega) (by omega)) h sizeOf23 rfl rfl (by omega) (by omega) (RowU.cellQ h (by omega) (by omega))) rfl rfl ?_)))))))
    rintro _ w ⟨hqK, h⟩
    refine ⟨trivial, ?_⟩
    refine WT.pure 16 rfl (by kernel_rfl) (fun w' => (run_indexAddr underlying129 sizeOf23 rfl rfl (by omega) (by omega))) rfl rfl (WT.eff 17 [] rfl (by kernel_rfl) (by kernel_rfl) (eff_setR h sizeOf23 rfl rfl (by omega) (by omega) hqK) rfl rfl ?_)
    rintro _ w h
    refine ⟨trivial, ?_⟩
    refine WT.done (by kernel_rfl) ?_
    refine W.cut (fun env w => (a ≤ b) ∧ ∃ jk, env = mkE jk [(0, .slice (some ⟨bd, od, none⟩) n cp), (1, .int .i64 a), (2, .int .i64 b), (7, .int .i64 i), (8, .int .i64 t)] ∧ On W0 (RowU Q (.slice (some ⟨bd, od, none⟩) n cp) n :: L) w) ?_ ?_
    ·
     refine W.seq (W.region (WL.val run_move rfl rfl (WL.val run_move rfl rfl (WL.val (run_sub rfl rfl (by omega) (by omega)) rfl rfl (WL.val (run_geq rfl rfl) rfl rfl (WL.nil ?_))))))
     refine W.condIf rfl (fun c30 => ?_) (fun c30 => ?_)
     ·
      refine W.seq (W.region (WL.val run_move rfl rfl (WL.val (run_sub rfl rfl (by omega) (by omega)) rfl rfl (WL.val run_assign rfl rfl (WL.nil (W.block ?_))))))
      refine W.loop (fun (s : Int) env w => (0 ≤ s ∧ s < i) ∧ ∃ jk, env = mkE jk [(0, .slice (some ⟨bd, od, none⟩) n cp), (1, .int .i64 a), (2, .int .i64 b), (7, .int .i64 i), (8, .int .i64 t), (9, .int .i64 s)] ∧ On W0 (RowU Q (.slice (some ⟨bd, od, none⟩) n cp) n :: L) w) (fun s => (s).toNat) (i - 1) ?_ ?_
      · exact ⟨by (try dsimp only); omega, _, mkE_of ⟨rfl, rfl, rfl, rfl, rfl, rfl, trivial⟩, h⟩
      rintro k env w ⟨hI19, jk, rfl, h⟩
      refine W.seq (W.seq (W.region (WL.val run_move rfl rfl (WL.val (run_geq rfl rfl) rfl rfl (WL.nil ?_)))))
      refine W.condIf rfl (fun c35 => ?_) (fun c35 => ?_)
      ·
       refine W.skip (W.seq (W.block (W.seq (W.seq ?_))))
       refine W.draw Tryz.follows h (fun w h => ?_)
       refine WT.pure 0 rfl (by kernel_rfl) (fun w' => run_move) rfl rfl (WT.pure 1 rfl (by kernel_rfl) (fun w' => run_move) rfl rfl (WT.pure 2 rfl (by kernel_rfl) (fun w' => (run_indexAddr underlying129 sizeOf23 rfl rfl (by omega) (by omega))) rfl rfl (WT.load1 3 rfl (by kernel_rfl) isAgg23 rfl (RowU.cellZ h (by omega) (by omega)) rfl rfl (WT.pure 4 rfl (by kernel_rfl) (fun w' => run_move) rfl rfl (WT.pure 5 rfl (by kernel_rfl) (fun w' => run_move) rfl rfl (WT.pure 6 rfl (by kernel_rfl) (fun w' => (run_sub rfl rfl (by omega) (by omega))) rfl rfl (WT.pure 7 rfl (by kernel_rfl) (fun w' => (run_indexAddr underlying129 sizeOf23 rfl rfl (by omega) (by omega))) rfl rfl ?_)))))))
       refine WT.load1 8 rfl (by kernel_rfl) isAgg23 rfl (RowU.cellZ h (by omega) (by omega)) rfl rfl (WT.eff 9 [false, false] rfl (by kernel_rfl) (by kernel_rfl) (eff_call call157 (less_ok h)) rfl rfl ?_)
       rintro _ w ⟨⟨b77, rfl⟩, h⟩
       refine ⟨trivial, ?_⟩
       refine WT.pure 10 rfl (by kernel_rfl) (fun w' => (run_not rfl)) rfl rfl (WT.done (by kernel_rfl) ?_)
       refine W.condB rfl (fun c40 => ?_) (fun c40 => ?_)
       ·
        refine W.exit ?_
        exact ⟨by omega, _, mkE_of ⟨rfl, rfl, rfl, rfl, rfl, trivial⟩, h⟩
       refine W.skip ?_
       refine W.draw Tryz.follows h (fun w h => ?_)
       refine WT.pure 0 rfl (by kernel_rfl) (fun w' => run_move) rfl rfl (WT.pure 1 rfl (by kernel_rfl) (fun w' => run_move) rfl rfl (WT.pure 2 rfl (by kernel_rfl) (fun w' => run_move) rfl rfl (WT.pure 3 rfl (by kernel_rfl) (fun w' => run_move) rfl rfl (WT.pure 4 rfl (by kernel_rfl) (fun w' => (run_sub rfl rfl (by omega) (by omega))) rfl rfl (WT.pure 5 rfl (by kernel_rfl) (fun w' => run_move) rfl rfl (WT.pure 6 rfl (by kernel_rfl) (fun w' => run_move) rfl rfl (WT.pure 7 rfl (by kernel_rfl) (fun w' => (run_sub rfl rfl (by omega) (by omega))) rfl rfl ?_)))))))
       refine WT.pure 8 rfl (by kernel_rfl) (fun w' => (run_indexAddr underlying129 sizeOf23 rfl rfl (by omega) (by omega))) rfl rfl (WT.load1 9 rfl (by kernel_rfl) isAgg23 rfl (RowU.cellZ h (by omega) (by omega)) rfl rfl (WT.pure 10 rfl (by kernel_rfl) (fun w' => run_move) rfl rfl (WT.pure 11 rfl (by kernel_rfl) (fun w' => run_move) rfl rfl (WT.pure 12 rfl (by kernel_rfl) (fun w' => (run_indexAddr underlying129 sizeOf23 rfl rfl (by omega) (by omega))) rfl rfl (WT.load1 13 rfl (by kernel_rfl) isAgg23 rfl (RowU.cellZ h (by omega) (by omega)) rfl rfl (WT.pure 14 rfl (by kernel_rfl) (fun w' => (run_indexAddr underlying129 sizeOf23 rfl rfl (by omega) (by omega))) rfl rfl (WT.eff 15 [false, false] rfl (by kernel_rfl) (by kernel_rfl) (eff_setRK (RowU.cellQ (i := k) h (by omega) (by omega)) h sizeOf23 rfl rfl (by omega) (by omega) (RowU.cellQ h (by omega) (by omega))) rfl rfl ?_)))))))
       rintro _ w ⟨hqK, h⟩
       refine ⟨trivial, ?_⟩
       refine WT.pure 16 rfl (by kernel_rfl) (fun w' => (run_indexAddr underlying129 sizeOf23 rfl rfl (by omega) (by omega))) rfl rfl (WT.eff 17 [] rfl (by kernel_rfl) (by kernel_rfl) (eff_setR h sizeOf23 rfl rfl (by omega) (by omega) hqK) rfl rfl ?_)
       rintro _ w h
       refine ⟨trivial, ?_⟩
       refine WT.done (by kernel_rfl) (W.region (WL.val run_move rfl rfl (WL.val (run_sub rfl rfl (by omega) (by omega)) rfl rfl (WL.val run_assign rfl rfl (WL.nil ?_)))))
       exact ⟨k - 1, ⟨by (try dsimp only); omega, _, mkE_of ⟨rfl, rfl, rfl, rfl, rfl, rfl, trivial⟩, h⟩, by show (k - 1).toNat < (k).toNat; omega⟩
      refine W.exit ?_
      exact ⟨by omega, _, mkE_of ⟨rfl, rfl, rfl, rfl, rfl, trivial⟩, h⟩
     refine W.skip ?_
     exact ⟨by omega, _, mkE_of ⟨rfl, rfl, rfl, rfl, rfl, trivial⟩, h⟩
    rintro env w ⟨hC18, jk, rfl, h⟩
    refine W.seq (W.region (WL.val run_move rfl rfl (WL.val run_move rfl rfl (WL.val (run_sub rfl rfl (by omega) (by omega)) rfl rfl (WL.val (run_geq rfl rfl) rfl rfl (WL.nil ?_))))))
    refine W.condIf rfl (fun c47 => ?_) (fun c47 => ?_)
    ·
     refine W.seq (W.region (WL.val run_move rfl rfl (WL.val (run_add rfl rfl (by omega) (by omega)) rfl rfl (WL.val run_assign rfl rfl (WL.nil (W.block ?_))))))
     refine W.loop (fun (s : Int) env w => (i + 1 ≤ s) ∧ ∃ jk, env = mkE jk [(0, .slice (some ⟨bd, od, none⟩) n cp), (1, .int .i64 a), (2, .int .i64 b), (7, .int .i64 i), (8, .int .i64 t), (10, .int .i64 s)] ∧ On W0 (RowU Q (.slice (some ⟨bd, od, none⟩) n cp) n :: L) w) (fun s => (b - s).toNat) (i + 1) ?_ ?_
     · exact ⟨by (try dsimp only); omega, _, mkE_of ⟨rfl, rfl, rfl, rfl, rfl, rfl, trivial⟩, h⟩
     rintro k env w ⟨hI21, jk, rfl, h⟩
     refine W.seq (W.seq (W.region (WL.val run_move rfl rfl (WL.val run_move rfl rfl (WL.val (run_lss rfl rfl) rfl rfl (WL.nil ?_))))))
     refine W.condIf rfl (fun c52 => ?_) (fun c52 => ?_)
     ·
      refine W.skip (W.seq (W.block (W.seq (W.seq ?_))))
      refine W.draw Tryz.follows h (fun w h => ?_)
      refine WT.pure 0 rfl (by kernel_rfl) (fun w' => run_move) rfl rfl (WT.pure 1 rfl (by kernel_rfl) (fun w' => run_move) rfl rfl (WT.pure 2 rfl (by kernel_rfl) (fun w' => (run_indexAddr underlying129 sizeOf23 rfl rfl (by omega) (by omega))) rfl rfl (WT.load1 3 rfl (by kernel_rfl) isAgg23 rfl (RowU.cellZ h (by omega) (by omega)) rfl rfl (WT.pure 4 rfl (by kernel_rfl) (fun w' => run_move) rfl rfl (WT.pure 5 rfl (by kernel_rfl) (fun w' => run_move) rfl rfl (WT.pure 6 rfl (by kernel_rfl) (fun w' => (run_sub rfl rfl (by omega) (by omega))) rfl rfl (WT.pure 7 rfl (by kernel_rfl) (fun w' => (run_indexAddr underlying129 sizeOf23 rfl rfl (by omega) (by omega))) rfl rfl ?_)))))))
      refine WT.load1 8 rfl (by kernel_rfl) isAgg23 rfl (RowU.cellZ h (by omega) (by omega)) rfl rfl (WT.eff 9 [false, false] rfl (by kernel_rfl) (by kernel_rfl) (eff_call call157 (less_ok h)) rfl rfl ?_)
      rintro _ w ⟨⟨b115, rfl⟩, h⟩
      refine ⟨trivial, ?_⟩
      refine WT.pure 10 rfl (by kernel_rfl) (fun w' => (run_not rfl)) rfl rfl (WT.done (by kernel_rfl) ?_)
      refine W.condB rfl (fun c57 => ?_) (fun c57 => ?_)
      ·
       refine W.exit ?_
       exact ⟨i, by omega, _, mkE_of ⟨rfl, rfl, rfl, rfl, rfl, trivial⟩, h⟩
      refine W.skip ?_
      refine W.draw Tryz.follows h (fun w h => ?_)
      refine WT.pure 0 rfl (by kernel_rfl) (fun w' => run_move) rfl rfl (WT.pure 1 rfl (by kernel_rfl) (fun w' => run_move) rfl rfl (WT.pure 2 rfl (by kernel_rfl) (fun w' => run_move) rfl rfl (WT.pure 3 rfl (by kernel_rfl) (fun w' => run_move) rfl rfl (WT.pure 4 rfl (by kernel_rfl) (fun w' => (run_sub rfl rfl (by omega) (by omega))) rfl rfl (WT.pure 5 rfl (by kernel_rfl) (fun w' => run_move) rfl rfl (WT.pure 6 rfl (by kernel_rfl) (fun w' => run_move) rfl rfl (WT.pure 7 rfl (by kernel_rfl) (fun w' => (run_sub rfl rfl (by omega) (by omega))) rfl rfl ?_)))))))
      refine WT.pure 8 rfl (by kernel_rfl) (fun w' => (run_indexAddr underlying129 sizeOf23 rfl rfl (by omega) (by omega))) rfl rfl (WT.load1 9 rfl (by kernel_rfl) isAgg23 rfl (RowU.cellZ h (by omega) (by omega)) rfl rfl (WT.pure 10 rfl (by kernel_rfl) (fun w' => run_move) rfl rfl (WT.pure 11 rfl (by kernel_rfl) (fun w' => run_move) rfl rfl (WT.pure 12 rfl (by kernel_rfl) (fun w' => (run_indexAddr underlying129 sizeOf23 rfl rfl (by omega) (by omega))) rfl rfl (WT.load1 13 rfl (by kernel_rfl) isAgg23 rfl (RowU.cellZ h (by omega) (by omega)) rfl rfl (WT.pure 14 rfl (by kernel_rfl) (fun w' => (run_indexAddr underlying129 sizeOf23 rfl rfl (by omega) (by omega))) rfl rfl (WT.eff 15 [false, false] rfl (by kernel_rfl) (by kernel_rfl) (eff_setRK (RowU.cellQ (i := k) h (by omega) (by omega)) h sizeOf23 rfl rfl (by omega) (by omega) (RowU.cellQ h (by omega) (by omega))) rfl rfl ?_)))))))
      rintro _ w ⟨hqK, h⟩
      refine ⟨trivial, ?_⟩
      refine WT.pure 16 rfl (by kernel_rfl) (fun w' => (run_indexAddr underlying129 sizeOf23 rfl rfl (by omega) (by omega))) rfl rfl (WT.eff 17 [] rfl (by kernel_rfl) (by kernel_rfl) (eff_setR h sizeOf23 rfl rfl (by omega) (by omega) hqK) rfl rfl ?_)
      rintro _ w h
      refine ⟨trivial, ?_⟩
      refine WT.done (by kernel_rfl) (W.region (WL.val run_move rfl rfl (WL.val (run_add rfl rfl (by omega) (by omega)) rfl rfl (WL.val run_assign rfl rfl (WL.nil ?_)))))
      exact ⟨k + 1, ⟨by (try dsimp only); omega, _, mkE_of ⟨rfl, rfl, rfl, rfl, rfl, rfl, trivial⟩, h⟩, by show (b - (k + 1)).toNat < (b - k).toNat; omega⟩
     refine W.exit ?_
     exact ⟨i, by omega, _, mkE_of ⟨rfl, rfl, rfl, rfl, rfl, trivial⟩, h⟩
    refine W.skip ?_
    exact ⟨i, by omega, _, mkE_of ⟨rfl, rfl, rfl, rfl, rfl, trivial⟩, h⟩
   rintro env w ⟨i, hC20, jk, rfl, h⟩
   refine W.region (WL.val run_move rfl rfl (WL.val (run_add rfl rfl (by omega) (by omega)) rfl rfl (WL.val run_assign rfl rfl (WL.nil ?_))))
   exact ⟨(i, t + 1), ⟨by (try dsimp only); omega, _, mkE_of ⟨rfl, rfl, rfl, rfl, rfl, trivial⟩, h⟩, by show (5 - (t + 1)).toNat < (5 - t).toNat; omega⟩
  refine W.exit (W.seq (W.region (WL.val run_assign rfl rfl (WL.nil (W.ret (bodyQ.r1 (v := .bool _) results156 rfl ?_))))))
  exact ⟨_, rfl, h⟩
end Go.Proofs.YtjbgiingimhnnaaGreat
/-
  A unit: numbers sorted: the pivot: the contracts. Lines of walks printed by a program of the prover's.
-/
namespace Go.Proofs.YtjbgiingimhnnaaGreat
open Go.Proofs.Tryz
open Go Go.Sl Go.Sl.BitM Go.Sl.SpM Go.Sl.RsM Go.Sl.ByM Go.Sl.UnM
set_option linter.unusedVariables false
set_option linter.unusedSimpArgs false
set_option maxHeartbeats 1000000
set_option maxRecDepth 8000
variable {Q : Int → Prop} {W0 w : World} {L F : List HProp}
theorem order2_ok {bd od n cp : Nat} {a b s lo hi : Int} {bs : Nat} (hs0 : 0 ≤ s) (hs1 : s ≤ 1009) (hlo : 0 ≤ lo) (hhi : hi ≤ (n : Int)) (la : lo ≤ a) (ua : a < hi) (lb : lo ≤ b) (ub : b < hi) (hn : n < 65536) (h : On W0 (RowU Q (.slice (some ⟨bd, od, none⟩) n cp) n :: blk bs [.int .i64 s] 3 :: L) w) : Calls Tryz.prog 168 #[.slice (some ⟨bd, od, none⟩) n cp, .int .i64 a, .int .i64 b, .pointer (some ⟨bs, 0, none⟩)] w (Ret fun v w' => ∃ p q : Int, (lo ≤ p ∧ p < hi ∧ lo ≤ q ∧ q < hi) ∧ v = .tuple #[.int .i64 p, .int .i64 q] ∧ ∃ s' : Int, s ≤ s' ∧ s' ≤ s + 1 ∧ True ∧ On W0 (RowU Q (.slice (some ⟨bd, od, none⟩) n cp) n :: blk bs [.int .i64 s'] 3 :: L) w') := by
  refine enter func168 rfl ntmps168 rfl ?_
  have hmx := maxLen_eq
  refine W.seq (W.region (WL.val run_assign rfl rfl (WL.val run_assign rfl rfl (WL.nil (W.seq (W.seq ?_))))))
  refine W.draw Tryz.follows h (fun w h => ?_)
  refine WT.pure 0 rfl (by kernel_rfl) (fun w' => run_move) rfl rfl (WT.pure 1 rfl (by kernel_rfl) (fun w' => run_move) rfl rfl (WT.pure 2 rfl (by kernel_rfl) (fun w' => (run_indexAddr underlying129 sizeOf23 rfl rfl (by omega) (by omega))) rfl rfl (WT.load1 3 rfl (by kernel_rfl) isAgg23 rfl (RowU.cellZ h (by omega) (by omega)) rfl rfl (WT.pure 4 rfl (by kernel_rfl) (fun w' => run_move) rfl rfl (WT.pure 5 rfl (by kernel_rfl) (fun w' => run_move) rfl rfl (WT.pure 6 rfl (by kernel_rfl) (fun w' => (run_indexAddr underlying129 sizeOf23 rfl rfl (by omega) (by omega))) rfl rfl (WT.load1 7 rfl (by kernel_rfl) isAgg23 rfl (RowU.cellZ h (by omega) (by omega)) rfl rfl ?_)))))))
  refine WT.eff 8 [false, false] rfl (by kernel_rfl) (by kernel_rfl) (eff_call call157 (less_ok h)) rfl rfl ?_
  rintro _ w ⟨⟨b18, rfl⟩, h⟩
  refine ⟨trivial, ?_⟩
  refine WT.done (by kernel_rfl) ?_
  refine W.condB rfl (fun c2 => ?_) (fun c2 => ?_)
  ·
   refine W.seq (W.region (WL.val run_move rfl rfl (WL.val (run_nilCheck rfl) rfl rfl (WL.val (run_load1 isAgg3 rfl ((h.p1).cellB rfl)) rfl rfl (WL.val (run_add rfl rfl (by omega) (by omega)) rfl rfl (WL.val (run_nilCheck rfl) rfl rfl (WL.eff (eff_store (v := .int .i64 _) (h.p1) sizeOf3 rfl rfl rfl rfl rfl) rfl rfl ?_)))))))
   rintro _ w h
   have h : On W0 (blk bs [.int .i64 (s + 1)] 3 :: RowU Q (.slice (some ⟨bd, od, none⟩) n cp) n :: L) w := h
   refine WL.nil (W.seq (W.region (WL.val run_move rfl rfl (WL.val run_move rfl rfl (WL.val run_assign rfl rfl (WL.val run_assign rfl rfl (WL.nil ?_)))))))
   refine W.ret (bodyQ.r2 (v1 := .int .i64 _) (v2 := .int .i64 _) results168 rfl rfl ?_)
   exact ⟨b, a, ⟨by omega, by omega, by omega, by omega⟩, rfl, s + 1, by omega, by omega, trivial, h.p1⟩
  refine W.skip (W.seq (W.region (WL.val run_move rfl rfl (WL.val run_move rfl rfl (WL.val run_assign rfl rfl (WL.val run_assign rfl rfl (WL.nil ?_)))))))
  refine W.ret (bodyQ.r2 (v1 := .int .i64 _) (v2 := .int .i64 _) results168 rfl rfl ?_)
  exact ⟨a, b, ⟨by omega, by omega, by omega, by omega⟩, rfl, s, by omega, by omega, trivial, h⟩
theorem median_ok {bd od n cp : Nat} {a b c s lo hi : Int} {bs : Nat} (hs0 : 0 ≤ s) (hs1 : s ≤ 1000) (hlo : 0 ≤ lo) (hhi : hi ≤ (n : Int)) (la : lo ≤ a) (ua : a < hi) (lb : lo ≤ b) (ub : b < hi) (lc : lo ≤ c) (uc : c < hi) (hn : n < 65536) (h : On W0 (RowU Q (.slice (some ⟨bd, od, none⟩) n cp) n :: blk bs [.int .i64 s] 3 :: L) w) : Calls Tryz.prog 166 #[.slice (some ⟨bd, od, none⟩) n cp, .int .i64 a, .int .i64 b, .int .i64 c, .pointer (some ⟨bs, 0, none⟩)] w (Ret fun v w' => ∃ m : Int, (lo ≤ m ∧ m < hi) ∧ v = .int .i64 m ∧ ∃ s' : Int, s ≤ s' ∧ s' ≤ s + 3 ∧ True ∧ On W0 (RowU Q (.slice (some ⟨bd, od, none⟩) n cp) n :: blk bs [.int .i64 s'] 3 :: L) w') := by
  refine enter func166 rfl ntmps166 rfl ?_
  have hmx := maxLen_eq
  refine W.seq (W.region (WL.val run_assign rfl rfl (WL.nil (W.seq (W.region (WL.val run_move rfl rfl (WL.val run_move rfl rfl ?_)))))))
  refine WL.val run_move rfl rfl (WL.val run_move rfl rfl (WL.eff (eff_call call168 (order2_ok (a := a) (b := b) (lo := lo) (hi := hi) (by omega) (by omega) hlo hhi (by omega) (by omega) (by omega) (by omega) hn h)) rfl rfl ?_))
  rintro _ w ⟨p1, q1, hpq1, rfl, s1, hsa1, hsb1, _, h⟩
  refine WL.val run_move rfl rfl (WL.val (run_extract rfl rfl) rfl rfl (WL.val (run_extract rfl rfl) rfl rfl (WL.val run_assign rfl rfl (WL.val run_assign rfl rfl (WL.nil (W.seq (W.region ?_)))))))
  refine WL.val run_move rfl rfl (WL.val run_move rfl rfl (WL.val run_move rfl rfl (WL.val run_move rfl rfl (WL.eff (eff_call call168 (order2_ok (a := q1) (b := c) (lo := lo) (hi := hi) (by omega) (by omega) hlo hhi (by omega) (by omega) (by omega) (by omega) hn h)) rfl rfl ?_))))
  rintro _ w ⟨p2, q2, hpq2, rfl, s2, hsa2, hsb2, _, h⟩
  refine WL.val run_move rfl rfl (WL.val (run_extract rfl rfl) rfl rfl (WL.val (run_extract rfl rfl) rfl rfl (WL.val run_assign rfl rfl (WL.val run_assign rfl rfl (WL.nil (W.seq (W.region ?_)))))))
  refine WL.val run_move rfl rfl (WL.val run_move rfl rfl (WL.val run_move rfl rfl (WL.val run_move rfl rfl (WL.eff (eff_call call168 (order2_ok (a := p1) (b := p2) (lo := lo) (hi := hi) (by omega) (by omega) hlo hhi (by omega) (by omega) (by omega) (by omega) hn h)) rfl rfl ?_))))
  rintro _ w ⟨p3, q3, hpq3, rfl, s3, hsa3, hsb3, _, h⟩
  refine WL.val run_move rfl rfl (WL.val (run_extract rfl rfl) rfl rfl (WL.val (run_extract rfl rfl) rfl rfl (WL.val run_assign rfl rfl (WL.val run_assign rfl rfl (WL.nil (W.seq (W.region ?_)))))))
  refine WL.val run_move rfl rfl (WL.val run_assign rfl rfl (WL.nil (W.ret (bodyQ.r1 (v := .int .i64 _) results166 rfl ?_))))
  exact ⟨_, ⟨by omega, by omega⟩, rfl, s3, by omega, by omega, trivial, h⟩
theorem madj_ok {bd od n cp : Nat} {a s lo hi : Int} {bs : Nat} (hs0 : 0 ≤ s) (hs1 : s ≤ 1000) (hlo : 0 ≤ lo) (hhi : hi ≤ (n : Int)) (l1 : lo ≤ a - 1) (u1 : a + 1 < hi) (hn : n < 65536) (h : On W0 (RowU Q (.slice (some ⟨bd, od, none⟩) n cp) n :: blk bs [.int .i64 s] 3 :: L) w) : Calls Tryz.prog 165 #[.slice (some ⟨bd, od, none⟩) n cp, .int .i64 a, .pointer (some ⟨bs, 0, none⟩)] w (Ret fun v w' => ∃ m : Int, (lo ≤ m ∧ m < hi) ∧ v = .int .i64 m ∧ ∃ s' : Int, s ≤ s' ∧ s' ≤ s + 3 ∧ True ∧ On W0 (RowU Q (.slice (some ⟨bd, od, none⟩) n cp) n :: blk bs [.int .i64 s'] 3 :: L) w') := by
  refine enter func165 rfl ntmps165 rfl ?_
  have hmx := maxLen_eq
  refine W.seq (W.region (WL.val run_assign rfl rfl (WL.nil (W.seq (W.region (WL.val run_move rfl rfl (WL.val run_move rfl rfl ?_)))))))
  refine WL.val (run_sub rfl rfl (by omega) (by omega)) rfl rfl (WL.val run_move rfl rfl (WL.val run_move rfl rfl (WL.val (run_add rfl rfl (by omega) (by omega)) rfl rfl (WL.val run_move rfl rfl (WL.eff (eff_call call166 (median_ok (a := a - 1) (b := a) (c := a + 1) (lo := lo) (hi := hi) (by omega) (by omega) hlo hhi (by omega) (by omega) (by omega) (by omega) (by omega) (by omega) hn h)) rfl rfl ?_)))))
  rintro _ w ⟨m, hm, rfl, s1, hsa, hsb, _, h⟩
  refine WL.val run_assign rfl rfl (WL.nil (W.ret (bodyQ.r1 (v := .int .i64 _) results165 rfl ?_)))
  exact ⟨_, ⟨by omega, by omega⟩, rfl, s1, by omega, by omega, trivial, h⟩
theorem choose_ok {bd od n cp : Nat} {a b : Int} (h0 : 0 ≤ a) (h1 : 12 < b - a) (h2 : b ≤ (n : Int)) (hn : n < 65536) (h : On W0 (RowU Q (.slice (some ⟨bd, od, none⟩) n cp) n :: L) w) : Calls Tryz.prog 154 #[.slice (some ⟨bd, od, none⟩) n cp, .int .i64 a, .int .i64 b] w (Ret fun v w' => ∃ p hint : Int, a ≤ p ∧ p < b ∧ v = .tuple #[.int .i64 p, .int .i64 hint] ∧ On W0 (RowU Q (.slice (some ⟨bd, od, none⟩) n cp) n :: L) w') := by
  refine enter func154 rfl ntmps154 rfl ?_
  have hmx := maxLen_eq
  refine W.seq (W.region (WL.val run_assign rfl rfl (WL.val run_assign rfl rfl (WL.nil (W.seq (W.region (WL.val run_move rfl rfl ?_)))))))
  refine WL.val run_move rfl rfl (WL.val (run_sub rfl rfl (by omega) (by omega)) rfl rfl (WL.val run_assign rfl rfl (WL.nil (W.seq (W.region (WL.eff (eff_alloc h zeroValue3 rfl) rfl rfl ?_))))))
  rintro _ w ⟨b9, rfl, h⟩
  have h : On W0 (RowU Q (.slice (some ⟨bd, od, none⟩) n cp) n :: blk b9 [.int .i64 0] 3 :: L) w := h.p1
  refine WL.nil (W.seq (W.region (WL.val run_move rfl rfl (WL.val run_move rfl rfl (WL.val (run_quo rfl rfl (by omega) (by omega) (by omega)) rfl rfl (WL.val (run_mul rfl rfl (by omega) (by omega)) rfl rfl (WL.val (run_add rfl rfl (by omega) (by omega)) rfl rfl ?_)))))))
  refine WL.val run_assign rfl rfl (WL.nil (W.seq (W.region (WL.val run_move rfl rfl (WL.val run_move rfl rfl (WL.val (run_quo rfl rfl (by omega) (by omega) (by omega)) rfl rfl (WL.val (run_mul rfl rfl (by omega) (by omega)) rfl rfl ?_)))))))
  refine WL.val (run_add rfl rfl (by omega) (by omega)) rfl rfl (WL.val run_assign rfl rfl (WL.nil (W.seq (W.region (WL.val run_move rfl rfl (WL.val run_move rfl rfl (WL.val (run_quo rfl rfl (by omega) (by omega) (by omega)) rfl rfl ?_)))))))
  refine WL.val (run_mul rfl rfl (by omega) (by omega)) rfl rfl (WL.val (run_add rfl rfl (by omega) (by omega)) rfl rfl (WL.val run_assign rfl rfl (WL.nil (W.seq (W.seq (W.region (WL.val run_move rfl rfl ?_)))))))
  refine WL.val (run_geqT rfl rfl (by omega)) rfl rfl (WL.nil (W.condT rfl ?_))
  refine W.cut (fun env w => ∃ (x : Int), ∃ (y : Int), ∃ (z : Int), ∃ (s : Int), (a ≤ x ∧ x < b ∧ a ≤ y ∧ y < b ∧ a ≤ z ∧ z < b ∧ 0 ≤ s ∧ s ≤ 9) ∧ ∃ jk, env = mkE jk [(0, .slice (some ⟨bd, od, none⟩) n cp), (9, .pointer (some ⟨b9, 0, none⟩)), (10, .int .i64 x), (11, .int .i64 y), (12, .int .i64 z)] ∧ On W0 (RowU Q (.slice (some ⟨bd, od, none⟩) n cp) n :: blk b9 [.int .i64 s] 3 :: L) w) ?_ ?_
  ·
   refine W.seq (W.region (WL.val run_move rfl rfl (WL.val (run_geq rfl rfl) rfl rfl (WL.nil ?_))))
   refine W.condIf rfl (fun c9 => ?_) (fun c9 => ?_)
   ·
    refine W.seq (W.region (WL.val run_move rfl rfl (WL.val run_move rfl rfl (WL.eff (eff_call call165 (madj_ok (a := (a + (b - a) / 4 * 1)) (lo := a) (hi := b) (by omega) (by omega) h0 h2 (by omega) (by omega) hn h)) rfl rfl ?_))))
    rintro _ w ⟨m1, hm1, rfl, s1, hsa1, hsb1, _, h⟩
    refine WL.val run_assign rfl rfl (WL.nil (W.seq (W.region (WL.val run_move rfl rfl (WL.val run_move rfl rfl (WL.eff (eff_call call165 (madj_ok (a := (a + (b - a) / 4 * 2)) (lo := a) (hi := b) (by omega) (by omega) h0 h2 (by omega) (by omega) hn h)) rfl rfl ?_))))))
    rintro _ w ⟨m2, hm2, rfl, s2, hsa2, hsb2, _, h⟩
    refine WL.val run_assign rfl rfl (WL.nil (W.region (WL.val run_move rfl rfl (WL.val run_move rfl rfl (WL.eff (eff_call call165 (madj_ok (a := (a + (b - a) / 4 * 3)) (lo := a) (hi := b) (by omega) (by omega) h0 h2 (by omega) (by omega) hn h)) rfl rfl ?_)))))
    rintro _ w ⟨m3, hm3, rfl, s3, hsa3, hsb3, _, h⟩
    refine WL.val run_assign rfl rfl (WL.nil ?_)
    exact ⟨m1, m2, m3, s3, by omega, _, mkE_of ⟨rfl, rfl, rfl, rfl, rfl, trivial⟩, h⟩
   refine W.skip ?_
   exact ⟨a + (b - a) / 4 * 1, a + (b - a) / 4 * 2, a + (b - a) / 4 * 3, 0, by omega, _, mkE_of ⟨rfl, rfl, rfl, rfl, rfl, trivial⟩, h⟩
  rintro env w ⟨x, y, z, s, hC22, jk, rfl, h⟩
  refine W.region (WL.val run_move rfl rfl (WL.val run_move rfl rfl (WL.val run_move rfl rfl (WL.val run_move rfl rfl (WL.eff (eff_call call166 (median_ok (a := x) (b := y) (c := z) (lo := a) (hi := b) (by omega) (by omega) h0 h2 (by omega) (by omega) (by omega) (by omega) (by omega) (by omega) hn h)) rfl rfl ?_)))))
  rintro _ w ⟨m4, hm4, rfl, s4, hsa4, hsb4, _, h⟩
  refine WL.val run_assign rfl rfl (WL.nil (W.seq (W.region (WL.val (run_load1 isAgg3 rfl ((h.p1).cellB rfl)) rfl rfl (WL.nil (W.block (W.seq ?_)))))))
  refine W.region (WL.val (run_eql rfl rfl) rfl rfl (WL.val run_assign rfl rfl (WL.nil ?_)))
  refine W.condIf rfl (fun c19 => ?_) (fun c19 => ?_)
  ·
   refine W.seq (W.region (WL.val run_move rfl rfl (WL.val run_assign rfl rfl (WL.val run_assign rfl rfl (WL.nil (W.ret (bodyQ.r2 (v1 := .int .i64 _) (v2 := .int .i64 _) results154 rfl rfl ?_)))))))
   exact ⟨_, _, by omega, by omega, rfl, h.to⟩
  refine W.seq (W.region (WL.val (run_eql rfl rfl) rfl rfl (WL.val run_assign rfl rfl (WL.nil ?_))))
  refine W.condIf rfl (fun c23 => ?_) (fun c23 => ?_)
  ·
   refine W.seq (W.region (WL.val run_move rfl rfl (WL.val run_assign rfl rfl (WL.val run_assign rfl rfl (WL.nil (W.ret (bodyQ.r2 (v1 := .int .i64 _) (v2 := .int .i64 _) results154 rfl rfl ?_)))))))
   exact ⟨_, _, by omega, by omega, rfl, h.to⟩
  refine W.seq (W.region (WL.val run_move rfl rfl (WL.val run_assign rfl rfl (WL.val run_assign rfl rfl (WL.nil (W.ret (bodyQ.r2 (v1 := .int .i64 _) (v2 := .int .i64 _) results154 rfl rfl ?_)))))))
  exact ⟨_, _, by omega, by omega, rfl, h.to⟩
theorem len64B_ok {x : Nat} (hx : x < 65536) (h : On W0 L w) : Calls Tryz.prog 161 #[.int .u64 (x : Int)] w (Ret fun v w' => ∃ z : Nat, z ≤ 16 ∧ (0 < x → 2 ^ z ≤ 2 * x) ∧ v = .int .i64 (z : Int) ∧ On W0 L w') := by
  refine enter func161 rfl ntmps161 rfl ?_
  have hx8 : x / 256 < 256 := by omega
  refine W.seq (W.region (WL.val run_assign rfl rfl (WL.nil (W.seq (W.seq (W.region (WL.val run_move rfl rfl ?_)))))))
  refine WL.val (run_geqF rfl rfl (by omega)) rfl rfl (WL.nil (W.condF rfl (W.skip (W.seq (W.seq (W.region (WL.val run_move rfl rfl ?_)))))))
  refine WL.val (run_geqF rfl rfl (by omega)) rfl rfl (WL.nil (W.condF rfl (W.skip (W.seq (W.seq (W.region (WL.val run_move rfl rfl ?_)))))))
  refine WL.val (run_geq rfl rfl) rfl rfl (WL.nil ?_)
  refine W.condIf rfl (fun c12 => ?_) (fun c12 => ?_)
  ·
   refine W.seq (W.region (WL.val run_move rfl rfl (WL.val (run_shrN (m := x) (j := 8) rfl rfl (by decide)) rfl rfl (WL.val run_assign rfl rfl (WL.nil (W.region (WL.val run_move rfl rfl ?_)))))))
   refine WL.val (run_addN (m := 0) (n := 8) rfl rfl (by omega)) rfl rfl (WL.val run_assign rfl rfl (WL.nil (W.seq (W.region (WL.val run_move rfl rfl (WL.val run_move rfl rfl (WL.val (run_convByte (n := x / 256) underlying23 underlying5 rfl) rfl rfl ?_)))))))
   refine WL.val (run_indexStr underlying9 rfl rfl (tabKey (by kernel_rfl) (x := x / 256) (by omega))) rfl rfl (WL.val (run_convU8 underlying5 underlying3 rfl) rfl rfl (WL.val (run_addU8 (m := 8) rfl rfl (by omega)) rfl rfl (WL.val run_assign rfl rfl (WL.nil (W.ret (bodyQ.r1 (v := .int .i64 _) results161 rfl ?_))))))
   exact ⟨_, lenB (by kernel_rfl) hx8 (by decide), fun h0 => lenHi (by kernel_rfl) hx8 (by omega), rfl, h⟩
  refine W.skip (W.seq (W.region (WL.val run_move rfl rfl (WL.val run_move rfl rfl (WL.val (run_convByte (n := x) underlying23 underlying5 rfl) rfl rfl (WL.val (run_indexStr underlying9 rfl rfl (tabKey (by kernel_rfl) (x := x) (by omega))) rfl rfl (WL.val (run_convU8 underlying5 underlying3 rfl) rfl rfl ?_)))))))
  refine WL.val (run_addU8 (m := 0) rfl rfl (by omega)) rfl rfl (WL.val run_assign rfl rfl (WL.nil (W.ret (bodyQ.r1 (v := .int .i64 _) results161 rfl ?_))))
  exact ⟨_, lenB (by kernel_rfl) (by omega) (by decide), fun h0 => lenLo (by kernel_rfl) (by omega) h0, rfl, h⟩
end Go.Proofs.YtjbgiingimhnnaaGreat
/-
  A unit: numbers sorted: the whole: the contracts. Lines of walks printed by a program of the prover's.
-/
namespace Go.Proofs.YtjbgiingimhnnaaGreat
open Go.Proofs.Tryz
open Go Go.Sl Go.Sl.BitM Go.Sl.SpM Go.Sl.RsM Go.Sl.ByM Go.Sl.UnM
set_option linter.unusedVariables false
set_option linter.unusedSimpArgs false
set_option maxHeartbeats 1000000
set_option maxRecDepth 8000
variable {Q : Int → Prop} {W0 w : World} {L F : List HProp}
theorem blenB_ok {x : Nat} (hx : x < 65536) (h : On W0 L w) : Calls Tryz.prog 148 #[.int .u64 (x : Int)] w (Ret fun v w' => ∃ z : Nat, z ≤ 16 ∧ (0 < x → 2 ^ z ≤ 2 * x) ∧ v = .int .i64 (z : Int) ∧ On W0 L w') := by
  refine enter func148 rfl ntmps148 rfl (W.seq (W.region (WL.val run_assign rfl rfl (WL.nil (W.seq (W.condF rfl (W.skip ?_)))))))
  refine W.seq (W.region (WL.val run_move rfl rfl (WL.eff (eff_call call161 (len64B_ok hx h)) rfl rfl ?_)))
  rintro _ w ⟨z, hz1, hz2, rfl, h⟩
  refine WL.val run_assign rfl rfl (WL.nil (W.ret (bodyQ.r1 (v := .int .i64 _) results148 rfl ?_)))
  exact ⟨z, hz1, hz2, rfl, h⟩
theorem pow2_ok {x : Nat} (hx : x < 65536) (h1 : 0 < x) (h : On W0 L w) : Calls Tryz.prog 163 #[.int .i64 (x : Int)] w (Ret fun v w' => ∃ m : Nat, 1 ≤ m ∧ m ≤ 2 * x ∧ v = .int .u64 (m : Int) ∧ On W0 L w') := by
  refine enter func163 rfl ntmps163 rfl (W.seq (W.region (WL.val run_assign rfl rfl (WL.nil (W.seq (W.region (WL.val run_move rfl rfl ?_)))))))
  refine WL.val (run_convIn underlying3 underlying154 rfl (by show (0 : Int) ≤ _; omega) (by show _ ≤ (18446744073709551615 : Int); omega)) rfl rfl (WL.eff (eff_call call148 (blenB_ok hx h)) rfl rfl ?_)
  rintro _ w ⟨z, hz1, hz2, rfl, h⟩
  refine WL.val (run_shlOne rfl rfl (by omega)) rfl rfl (WL.val run_assign rfl rfl (WL.nil (W.ret (bodyQ.r1 (v := .int .u64 _) results163 rfl ?_))))
  exact ⟨2 ^ z, Nat.pow_pos (by decide), hz2 h1, rfl, h⟩
theorem next_ok {br : Nat} {z : Int} (h : On W0 (blk br [.int .u64 z] 201 :: L) w) : Calls Tryz.prog 164 #[.pointer (some ⟨br, 0, none⟩)] w (Ret fun v w' => ∃ y : Int, v = .int .u64 y ∧ On W0 (blk br [.int .u64 y] 201 :: L) w') := by
  refine enter func164 rfl ntmps164 rfl (W.seq (W.region (WL.val run_assign rfl rfl (WL.nil (W.seq ?_)))))
  refine W.draw Tryz.follows h (fun w h => ?_)
  refine WT.pure 0 rfl (by kernel_rfl) (fun w' => run_move) rfl rfl (WT.pure 1 rfl (by kernel_rfl) (fun w' => (run_nilCheck rfl)) rfl rfl (WT.load1 2 rfl (by kernel_rfl) isAgg201 rfl (h.cellB rfl) rfl rfl (WT.pure 3 rfl (by kernel_rfl) (fun w' => run_move) rfl rfl (WT.pure 4 rfl (by kernel_rfl) (fun w' => (run_nilCheck rfl)) rfl rfl (WT.load1 5 rfl (by kernel_rfl) isAgg201 rfl (h.cellB rfl) rfl rfl (WT.pure 6 rfl (by kernel_rfl) (fun w' => (run_shl rfl rfl (by omega))) rfl rfl (WT.pure 7 rfl (by kernel_rfl) (fun w' => (run_xor rfl rfl)) rfl rfl ?_)))))))
  refine WT.pure 8 rfl (by kernel_rfl) (fun w' => (run_nilCheck rfl)) rfl rfl (WT.eff 9 [false, false] rfl (by kernel_rfl) (by kernel_rfl) (eff_store (v := .int .u64 _) h sizeOf201 rfl rfl rfl rfl rfl) rfl rfl ?_)
  rintro _ w h
  try simp only [Nat.zero_add, Nat.add_zero, List.set_cons_zero, List.set_cons_succ] at h
  refine ⟨trivial, ?_⟩
  refine WT.done (by kernel_rfl) (W.seq ?_)
  refine W.draw Tryz.follows h (fun w h => ?_)
  refine WT.pure 0 rfl (by kernel_rfl) (fun w' => run_move) rfl rfl (WT.pure 1 rfl (by kernel_rfl) (fun w' => (run_nilCheck rfl)) rfl rfl (WT.load1 2 rfl (by kernel_rfl) isAgg201 rfl (h.cellB rfl) rfl rfl (WT.pure 3 rfl (by kernel_rfl) (fun w' => run_move) rfl rfl (WT.pure 4 rfl (by kernel_rfl) (fun w' => (run_nilCheck rfl)) rfl rfl (WT.load1 5 rfl (by kernel_rfl) isAgg201 rfl (h.cellB rfl) rfl rfl (WT.pure 6 rfl (by kernel_rfl) (fun w' => (run_shr rfl rfl (by omega))) rfl rfl (WT.pure 7 rfl (by kernel_rfl) (fun w' => (run_xor rfl rfl)) rfl rfl ?_)))))))
  refine WT.pure 8 rfl (by kernel_rfl) (fun w' => (run_nilCheck rfl)) rfl rfl (WT.eff 9 [false, false] rfl (by kernel_rfl) (by kernel_rfl) (eff_store (v := .int .u64 _) h sizeOf201 rfl rfl rfl rfl rfl) rfl rfl ?_)
  rintro _ w h
  try simp only [Nat.zero_add, Nat.add_zero, List.set_cons_zero, List.set_cons_succ] at h
  refine ⟨trivial, ?_⟩
  refine WT.done (by kernel_rfl) (W.seq ?_)
  refine W.draw Tryz.follows h (fun w h => ?_)
  refine WT.pure 0 rfl (by kernel_rfl) (fun w' => run_move) rfl rfl (WT.pure 1 rfl (by kernel_rfl) (fun w' => (run_nilCheck rfl)) rfl rfl (WT.load1 2 rfl (by kernel_rfl) isAgg201 rfl (h.cellB rfl) rfl rfl (WT.pure 3 rfl (by kernel_rfl) (fun w' => run_move) rfl rfl (WT.pure 4 rfl (by kernel_rfl) (fun w' => (run_nilCheck rfl)) rfl rfl (WT.load1 5 rfl (by kernel_rfl) isAgg201 rfl (h.cellB rfl) rfl rfl (WT.pure 6 rfl (by kernel_rfl) (fun w' => (run_shl rfl rfl (by omega))) rfl rfl (WT.pure 7 rfl (by kernel_rfl) (fun w' => (run_xor rfl rfl)) rfl rfl ?_)))))))
  refine WT.pure 8 rfl (by kernel_rfl) (fun w' => (run_nilCheck rfl)) rfl rfl (WT.eff 9 [false, false] rfl (by kernel_rfl) (by kernel_rfl) (eff_store (v := .int .u64 _) h sizeOf201 rfl rfl rfl rfl rfl) rfl rfl ?_)
  rintro _ w h
  try simp only [Nat.zero_add, Nat.add_zero, List.set_cons_zero, List.set_cons_succ] at h
  refine ⟨trivial, ?_⟩
  refine WT.done (by kernel_rfl) (W.seq (W.region (WL.val run_move rfl rfl (WL.val (run_nilCheck rfl) rfl rfl (WL.val (run_load1 isAgg201 rfl (h.cellB rfl)) rfl rfl (WL.val run_assign rfl rfl (WL.nil ?_)))))))
  refine W.ret (bodyQ.r1 (v := .int .u64 _) results164 rfl ?_)
  exact ⟨_, rfl, h⟩
theorem break_ok {bd od n cp : Nat} {a b : Int} (h0 : 0 ≤ a) (h1 : 12 < b - a) (h2 : b ≤ (n : Int)) (hn : n < 65536) (h : On W0 (RowU Q (.slice (some ⟨bd, od, none⟩) n cp) n :: L) w) : Calls Tryz.prog 153 #[.slice (some ⟨bd, od, none⟩) n cp, .int .i64 a, .int .i64 b] w (Ret fun v w' => On W0 (RowU Q (.slice (some ⟨bd, od, none⟩) n cp) n :: L) w') := by
  refine enter func153 rfl ntmps153 rfl ?_
  have hmx := maxLen_eq
  have ob_ := Int.eq_ofNat_of_zero_le (show 0 ≤ b - a by omega)
  obtain ⟨l, hl⟩ := ob_
  refine W.seq (W.region (WL.val run_move rfl rfl (WL.val run_move rfl rfl (WL.val (run_sub rfl rfl (by omega) (by omega)) rfl rfl (WL.val run_assign rfl rfl (WL.nil (W.seq ?_)))))))
  refine W.region (WL.val run_move rfl rfl (WL.val (run_geqT rfl rfl (by omega)) rfl rfl (WL.nil (W.condT rfl (W.seq (W.region (WL.val run_move rfl rfl ?_)))))))
  refine WL.val (run_convInt underlying3 underlying201 rfl) rfl rfl (WL.eff (eff_alloc h zeroValue201 rfl) rfl rfl ?_)
  rintro _ w ⟨b7, rfl, h⟩
  refine WL.eff (eff_store (v := .int .u64 _) h sizeOf201 rfl rfl rfl rfl rfl) rfl rfl ?_
  rintro _ w h
  have ob_ : ∃ z0 : Int, z0 = IntKind.wrap .u64 (b - a) := ⟨_, rfl⟩
  obtain ⟨z0, hz0⟩ := ob_
  try simp only [List.set_cons_zero] at h
  have h : On W0 (blk b7 [.int .u64 (IntKind.wrap .u64 (b - a))] 201 :: RowU Q (.slice (some ⟨bd, od, none⟩) n cp) n :: L) w := h
  rw [← hz0] at h
  refine WL.nil (W.seq (W.region (WL.val run_move rfl rfl (WL.eff (eff_call call163 (by have hp := pow2_ok (x := l) (by omega) (by omega) h; rw [← hl] at hp; exact hp)) rfl rfl ?_))))
  rintro _ w ⟨m, hm1, hm2, rfl, h⟩
  have h : On W0 (RowU Q (.slice (some ⟨bd, od, none⟩) n cp) n :: _) w := h.p1
  refine WL.val run_assign rfl rfl (WL.nil (W.seq (W.region (WL.val run_move rfl rfl (WL.val run_move rfl rfl (WL.val (run_quo rfl rfl (by omega) (by omega) (by omega)) rfl rfl (WL.val (run_mul rfl rfl (by omega) (by omega)) rfl rfl ?_)))))))
  refine WL.val (run_add rfl rfl (by omega) (by omega)) rfl rfl (WL.val (run_sub rfl rfl (by omega) (by omega)) rfl rfl (WL.val run_assign rfl rfl (WL.nil (W.block ?_))))
  refine W.loop (fun (s : Int × Int) env w => (a + (b - a) / 4 * 2 - 1 ≤ s.1) ∧ ∃ jk, env = mkE jk [(0, .slice (some ⟨bd, od, none⟩) n cp), (1, .int .i64 a), (6, .int .i64 (b - a)), (7, .pointer (some ⟨b7, 0, none⟩)), (8, .int .u64 (m : Int)), (9, .int .i64 s.1)] ∧ On W0 (RowU Q (.slice (some ⟨bd, od, none⟩) n cp) n :: blk b7 [.int .u64 s.2] 201 :: L) w) (fun s => (a + (b - a) / 4 * 2 + 2 - s.1).toNat) ((a + (b - a) / 4 * 2 - 1, z0)) ?_ ?_
  · exact ⟨by (try dsimp only); omega, _, mkE_of ⟨rfl, rfl, rfl, rfl, rfl, rfl, trivial⟩, h⟩
  rintro ⟨x, z⟩ env w ⟨hI23, jk, rfl, h⟩
  try dsimp only at hI23
  refine W.seq (W.seq (W.region (WL.val run_move rfl rfl (WL.val run_move rfl rfl (WL.val run_move rfl rfl (WL.val (run_quo rfl rfl (by omega) (by omega) (by omega)) rfl rfl (WL.val (run_mul rfl rfl (by omega) (by omega)) rfl rfl ?_)))))))
  refine WL.val (run_add rfl rfl (by omega) (by omega)) rfl rfl (WL.val (run_add rfl rfl (by omega) (by omega)) rfl rfl (WL.val (run_leq rfl rfl) rfl rfl (WL.nil ?_)))
  refine W.condIf rfl (fun c9 => ?_) (fun c9 => ?_)
  ·
   refine W.skip (W.seq (W.block (W.seq (W.region (WL.eff (eff_call call164 (next_ok h.p1)) rfl rfl ?_)))))
   rintro _ w ⟨y, rfl, h⟩
   have h : On W0 (RowU Q (.slice (some ⟨bd, od, none⟩) n cp) n :: _) w := h.p1
   have hav := andV_le (z := y) (m := ((m - 1 : Nat) : Int)) (by omega) (by omega)
   refine WL.val run_move rfl rfl (WL.val (run_subK (m := m) (n := 1) rfl rfl (by omega) (by show _ ≤ (18446744073709551615 : Int); omega)) rfl rfl (WL.val (run_andU rfl rfl) rfl rfl (WL.val (run_convInt64 underlying154 underlying3 rfl (by omega) (by omega)) rfl rfl (WL.val run_assign rfl rfl (WL.nil ?_)))))
   refine W.cut (fun env w => ∃ (o : Int), ∃ (z : Int), (0 ≤ o ∧ o < b - a) ∧ ∃ jk, env = mkE jk [(0, .slice (some ⟨bd, od, none⟩) n cp), (1, .int .i64 a), (6, .int .i64 (b - a)), (7, .pointer (some ⟨b7, 0, none⟩)), (8, .int .u64 (m : Int)), (9, .int .i64 x), (10, .int .i64 o)] ∧ On W0 (RowU Q (.slice (some ⟨bd, od, none⟩) n cp) n :: blk b7 [.int .u64 z] 201 :: L) w) ?_ ?_
   ·
    refine W.seq (W.region (WL.val run_move rfl rfl (WL.val run_move rfl rfl (WL.val (run_geq rfl rfl) rfl rfl (WL.nil ?_)))))
    refine W.condIf rfl (fun c15 => ?_) (fun c15 => ?_)
    ·
     refine W.region (WL.val run_move rfl rfl (WL.val run_move rfl rfl (WL.val (run_sub rfl rfl (by omega) (by omega)) rfl rfl (WL.val run_assign rfl rfl (WL.nil ?_)))))
     exact ⟨andV y ((m - 1 : Nat) : Int) - (b - a), y, by omega, _, mkE_of ⟨rfl, rfl, rfl, rfl, rfl, rfl, rfl, trivial⟩, h⟩
    refine W.skip ?_
    exact ⟨andV y ((m - 1 : Nat) : Int), y, by omega, _, mkE_of ⟨rfl, rfl, rfl, rfl, rfl, rfl, rfl, trivial⟩, h⟩
   rintro env w ⟨o, z, hC24, jk, rfl, h⟩
   refine W.draw Tryz.follows h (fun w h => ?_)
   refine WT.pure 0 rfl (by kernel_rfl) (fun w' => run_move) rfl rfl (WT.pure 1 rfl (by kernel_rfl) (fun w' => run_move) rfl rfl (WT.pure 2 rfl (by kernel_rfl) (fun w' => run_move) rfl rfl (WT.pure 3 rfl (by kernel_rfl) (fun w' => run_move) rfl rfl (WT.pure 4 rfl (by kernel_rfl) (fun w' => run_move) rfl rfl (WT.pure 5 rfl (by kernel_rfl) (fun w' => (run_add rfl rfl (by omega) (by omega))) rfl rfl (WT.pure 6 rfl (by kernel_rfl) (fun w' => run_move) rfl rfl (WT.pure 7 rfl (by kernel_rfl) (fun w' => run_move) rfl rfl ?_)))))))
   refine WT.pure 8 rfl (by kernel_rfl) (fun w' => run_move) rfl rfl (WT.pure 9 rfl (by kernel_rfl) (fun w' => (run_add rfl rfl (by omega) (by omega))) rfl rfl (WT.pure 10 rfl (by kernel_rfl) (fun w' => (run_indexAddr underlying129 sizeOf23 rfl rfl (by omega) (by omega))) rfl rfl (WT.load1 11 rfl (by kernel_rfl) isAgg23 rfl (RowU.cellZ h (by omega) (by omega)) rfl rfl (WT.pure 12 rfl (by kernel_rfl) (fun w' => run_move) rfl rfl (WT.pure 13 rfl (by kernel_rfl) (fun w' => run_move) rfl rfl (WT.pure 14 rfl (by kernel_rfl) (fun w' => (run_indexAddr underlying129 sizeOf23 rfl rfl (by omega) (by omega))) rfl rfl (WT.load1 15 rfl (by kernel_rfl) isAgg23 rfl (RowU.cellZ h (by omega) (by omega)) rfl rfl ?_)))))))
   refine WT.pure 16 rfl (by kernel_rfl) (fun w' => (run_indexAddr underlying129 sizeOf23 rfl rfl (by omega) (by omega))) rfl rfl (WT.eff 17 [false, false] rfl (by kernel_rfl) (by kernel_rfl) (eff_setRK (RowU.cellQ (i := x) h (by omega) (by omega)) h sizeOf23 rfl rfl (by omega) (by omega) (RowU.cellQ h (by omega) (by omega))) rfl rfl ?_)
   rintro _ w ⟨hqK, h⟩
   refine ⟨trivial, ?_⟩
   refine WT.pure 18 rfl (by kernel_rfl) (fun w' => (run_indexAddr underlying129 sizeOf23 rfl rfl (by omega) (by omega))) rfl rfl (WT.eff 19 [] rfl (by kernel_rfl) (by kernel_rfl) (eff_setR h sizeOf23 rfl rfl (by omega) (by omega) hqK) rfl rfl ?_)
   rintro _ w h
   refine ⟨trivial, ?_⟩
   refine WT.done (by kernel_rfl) (W.region (WL.val run_move rfl rfl (WL.val (run_add rfl rfl (by omega) (by omega)) rfl rfl (WL.val run_assign rfl rfl (WL.nil ?_)))))
   exact ⟨(x + 1, z), ⟨by (try dsimp only); omega, _, mkE_of ⟨rfl, rfl, rfl, rfl, rfl, rfl, trivial⟩, h⟩, by show (a + (b - a) / 4 * 2 + 2 - (x + 1)).toNat < (a + (b - a) / 4 * 2 + 2 - x).toNat; omega⟩
  refine W.exit (bodyQ.fall (bodyQ.r0 results153 ?_))
  exact h.to
theorem pdqS_ok {bd od n cp : Nat} {a b lim : Int} {m : Nat} (IH : ∀ (a b lim : Int) (w : World), 0 ≤ a → a ≤ b → b ≤ (n : Int) → 0 ≤ lim → lim ≤ 100 → b - a < (m : Int) → On W0 (RowU Q (.slice (some ⟨bd, od, none⟩) n cp) n :: L) w → Calls Tryz.prog 147 #[.slice (some ⟨bd, od, none⟩) n cp, .int .i64 a, .int .i64 b, .int .i64 lim] w (Ret fun v w' => On W0 (RowU Q (.slice (some ⟨bd, od, none⟩) n cp) n :: L) w')) (h0 : 0 ≤ a) (h1 : a ≤ b) (h2 : b ≤ (n : Int)) (hl0 : 0 ≤ lim) (hl1 : lim ≤ 100) (hm : b - a ≤ (m : Int)) (hn : n < 65536) (h : On W0 (RowU Q (.slice (some ⟨bd, od, none⟩) n cp) n :: L) w) : Calls Tryz.prog 147 #[.slice (some ⟨bd, od, none⟩) n cp, .int .i64 a, .int .i64 b, .int .i64 lim] w (Ret fun v w' => On W0 (RowU Q (.slice (some ⟨bd, od, none⟩) n cp) n :: L) w') := by
  refine enter func147 rfl ntmps147 rfl ?_
  have hmx := maxLen_eq
  refine W.seq (W.region (WL.val run_assign rfl rfl (WL.nil (W.seq (W.region (WL.val run_assign rfl rfl (WL.nil ?_)))))))
  refine W.block ?_
  refine W.loop (fun (s : Int × Int × Int) env w => ∃ a1 b1 l1 : Int, s = (a1, b1, l1) ∧ (0 ≤ a1 ∧ a1 ≤ b1 ∧ b1 ≤ (n : Int) ∧ 0 ≤ l1 ∧ l1 ≤ 100 ∧ b1 - a1 ≤ (m : Int)) ∧ ∃ (wb wp : Bool) (jk : Env), env = mkE jk [(0, .slice (some ⟨bd, od, none⟩) n cp), (1, .int .i64 a1), (2, .int .i64 b1), (3, .int .i64 l1), (8, .bool wb), (9, .bool wp)] ∧ On W0 (RowU Q (.slice (some ⟨bd, od, none⟩) n cp) n :: L) w) (fun s => (s.2.1 - s.1).toNat) ((a, b, lim)) ?_ ?_
  · exact ⟨a, b, lim, rfl, by omega, true, true, _, mkE_of ⟨rfl, rfl, rfl, rfl, rfl, rfl, trivial⟩, h⟩
  rintro s env w ⟨a1, b1, l1, hs, hI, wb, wp, jk, rfl, h⟩
  subst hs
  refine W.block (W.seq (W.region (WL.val run_move rfl rfl (WL.val run_move rfl rfl (WL.val (run_sub rfl rfl (by omega) (by omega)) rfl rfl (WL.val run_assign rfl rfl (WL.nil ?_)))))))
  refine W.seq (W.seq (W.region (WL.val run_move rfl rfl (WL.val (run_leq rfl rfl) rfl rfl (WL.nil ?_)))))
  refine W.condIf rfl (fun c7 => ?_) (fun c7 => ?_)
  ·
   refine W.seq (W.region (WL.val run_move rfl rfl (WL.val run_move rfl rfl (WL.val run_move rfl rfl (WL.eff (eff_call call151 (insort_ok (a := a1) (b := b1) (by omega) (by omega) (by omega) hn h)) rfl rfl ?_)))))
   rintro _ w h
   refine WL.nil (W.ret (bodyQ.r0 results147 ?_))
   exact h
  refine W.skip (W.seq (W.seq (W.region (WL.val run_move rfl rfl (WL.val (run_eql rfl rfl) rfl rfl (WL.nil ?_))))))
  refine W.condIf rfl (fun c12 => ?_) (fun c12 => ?_)
  ·
   refine W.seq (W.region (WL.val run_move rfl rfl (WL.val run_move rfl rfl (WL.val run_move rfl rfl (WL.eff (eff_call call152 (heap_ok (a := a1) (b := b1) (by omega) (by omega) (by omega) hn h)) rfl rfl ?_)))))
   rintro _ w h
   refine WL.nil (W.ret (bodyQ.r0 results147 ?_))
   exact h
  refine W.skip ?_
  refine W.cut (fun env w => ∃ (l2 : Int), (0 ≤ l2 ∧ l2 ≤ 100) ∧ ∃ jk, env = mkE jk [(0, .slice (some ⟨bd, od, none⟩) n cp), (1, .int .i64 a1), (2, .int .i64 b1), (3, .int .i64 l2), (8, .bool wb), (9, .bool wp), (10, .int .i64 (b1 - a1))] ∧ On W0 (RowU Q (.slice (some ⟨bd, od, none⟩) n cp) n :: L) w) ?_ ?_
  ·
   refine W.seq (W.region (WL.val run_move rfl rfl (WL.val (run_not rfl) rfl rfl (WL.nil ?_))))
   refine W.condB rfl (fun c17 => ?_) (fun c17 => ?_)
   ·
    refine W.seq (W.region (WL.val run_move rfl rfl (WL.val run_move rfl rfl (WL.val run_move rfl rfl (WL.eff (eff_call call153 (break_ok (a := a1) (b := b1) (by omega) (by omega) (by omega) hn h)) rfl rfl ?_)))))
    rintro _ w h
    refine WL.nil (W.region (WL.val run_move rfl rfl (WL.val (run_sub rfl rfl (by omega) (by omega)) rfl rfl (WL.val run_assign rfl rfl (WL.nil ?_)))))
    exact ⟨l1 - 1, by omega, _, mkE_of ⟨rfl, rfl, rfl, rfl, rfl, rfl, rfl, trivial⟩, h⟩
   refine W.skip ?_
   exact ⟨l1, by omega, _, mkE_of ⟨rfl, rfl, rfl, rfl, rfl, rfl, rfl, trivial⟩, h⟩
  rintro env w ⟨l2, hC25, jk, rfl, h⟩
  refine W.seq (W.region (WL.val run_move rfl rfl (WL.val run_move rfl rfl (WL.val run_move rfl rfl (WL.eff (eff_call call154 (choose_ok (a := a1) (b := b1) (by omega) (by omega) (by omega) hn h)) rfl rfl ?_)))))
  rintro _ w ⟨p, hint, hp1, hp2, rfl, h⟩
  refine WL.val run_move rfl rfl (WL.val (run_extract rfl rfl) rfl rfl (WL.val (run_extract rfl rfl) rfl rfl (WL.val run_assign rfl rfl (WL.val run_assign rfl rfl (WL.nil ?_)))))
  refine W.cut (fun env w => ∃ (p : Int), ∃ (hint : Int), (a1 ≤ p ∧ p < b1) ∧ ∃ jk, env = mkE jk [(0, .slice (some ⟨bd, od, none⟩) n cp), (1, .int .i64 a1), (2, .int .i64 b1), (3, .int .i64 l2), (8, .bool wb), (9, .bool wp), (10, .int .i64 (b1 - a1)), (11, .int .i64 p), (12, .int .i64 hint)] ∧ On W0 (RowU Q (.slice (some ⟨bd, od, none⟩) n cp) n :: L) w) ?_ ?_
  ·
   refine W.seq (W.region (WL.val run_move rfl rfl (WL.val (run_eql rfl rfl) rfl rfl (WL.nil ?_))))
   refine W.condIf rfl (fun c23 => ?_) (fun c23 => ?_)
   ·
    refine W.seq (W.region (WL.val run_move rfl rfl (WL.val run_move rfl rfl (WL.val run_move rfl rfl (WL.eff (eff_call call155 (reverse_ok (a := a1) (b := b1) (by omega) (by omega) (by omega) hn h)) rfl rfl ?_)))))
    rintro _ w h
    refine WL.nil (W.seq (W.region (WL.val run_move rfl rfl (WL.val (run_sub rfl rfl (by omega) (by omega)) rfl rfl (WL.val run_move rfl rfl (WL.val run_move rfl rfl (WL.val (run_sub rfl rfl (by omega) (by omega)) rfl rfl ?_)))))))
    refine WL.val (run_sub rfl rfl (by omega) (by omega)) rfl rfl (WL.val run_assign rfl rfl (WL.nil (W.region (WL.val run_assign rfl rfl (WL.nil ?_)))))
    exact ⟨b1 - 1 - (p - a1), 1, by omega, _, mkE_of ⟨rfl, rfl, rfl, rfl, rfl, rfl, rfl, rfl, rfl, trivial⟩, h⟩
   refine W.skip ?_
   exact ⟨p, hint, by omega, _, mkE_of ⟨rfl, rfl, rfl, rfl, rfl, rfl, rfl, rfl, rfl, trivial⟩, h⟩
  rintro env w ⟨p, hint, hC26, jk, rfl, h⟩
  refine W.cut (fun env w => (a1 ≤ p) ∧ ∃ jk, env = mkE jk [(0, .slice (some ⟨bd, od, none⟩) n cp), (1, .int .i64 a1), (2, .int .i64 b1), (3, .int .i64 l2), (8, .bool wb), (9, .bool wp), (10, .int .i64 (b1 - a1)), (11, .int .i64 p), (12, .int .i64 hint)] ∧ On W0 (RowU Q (.slice (some ⟨bd, od, none⟩) n cp) n :: L) w) ?_ ?_
  ·
   refine W.seq (W.region ?_)
   refine WL.boolB run_move rfl rfl (fun c61 => ?_) (fun c61 => ?_)
   ·
    refine WL.val run_move rfl rfl ?_
    refine WL.boolB run_move rfl rfl (fun c63 => ?_) (fun c63 => ?_)
    ·
     refine WL.val (run_pickT rfl) rfl rfl (WL.val run_move rfl rfl (WL.val run_move rfl rfl (WL.val (run_eql rfl rfl) rfl rfl (WL.val (run_pickT rfl) rfl rfl (WL.nil ?_)))))
     refine W.condIf rfl (fun c29 => ?_) (fun c29 => ?_)
     ·
      refine W.seq (W.region (WL.val run_move rfl rfl (WL.val run_move rfl rfl (WL.val run_move rfl rfl (WL.eff (eff_call call156 (partial_ok (a := a1) (b := b1) (by omega) (by omega) (by omega) hn h)) rfl rfl ?_)))))
      rintro _ w ⟨r, rfl, h⟩
      refine WL.nil ?_
      refine W.condB rfl (fun c31 => ?_) (fun c31 => ?_)
      ·
       refine W.ret (bodyQ.r0 results147 ?_)
       exact h
      refine W.skip ?_
      exact ⟨by omega, _, mkE_of ⟨rfl, rfl, rfl, rfl, rfl, rfl, rfl, rfl, rfl, trivial⟩, h⟩
     refine W.skip ?_
     exact ⟨by omega, _, mkE_of ⟨rfl, rfl, rfl, rfl, rfl, rfl, rfl, rfl, rfl, trivial⟩, h⟩
    refine WL.val (run_pickT rfl) rfl rfl (WL.val run_move rfl rfl (WL.skip rfl rfl (WL.skip rfl rfl (WL.val (run_pickF rfl) rfl rfl (WL.nil (W.condF rfl (W.skip ?_)))))))
    exact ⟨by omega, _, mkE_of ⟨rfl, rfl, rfl, rfl, rfl, rfl, rfl, rfl, rfl, trivial⟩, h⟩
   refine WL.val run_move rfl rfl (WL.skip rfl rfl (WL.val (run_pickF rfl) rfl rfl (WL.val run_move rfl rfl (WL.skip rfl rfl (WL.skip rfl rfl (WL.val (run_pickF rfl) rfl rfl (WL.nil ?_)))))))
   refine W.condF rfl (W.skip ?_)
   exact ⟨by omega, _, mkE_of ⟨rfl, rfl, rfl, rfl, rfl, rfl, rfl, rfl, rfl, trivial⟩, h⟩
  rintro env w ⟨hC27, jk, rfl, h⟩
  refine W.cut (fun env w => (a1 ≤ p) ∧ ∃ jk, env = mkE jk [(0, .slice (some ⟨bd, od, none⟩) n cp), (1, .int .i64 a1), (2, .int .i64 b1), (3, .int .i64 l2), (8, .bool wb), (9, .bool wp), (10, .int .i64 (b1 - a1)), (11, .int .i64 p), (12, .int .i64 hint)] ∧ On W0 (RowU Q (.slice (some ⟨bd, od, none⟩) n cp) n :: L) w) ?_ ?_
  ·
   refine W.seq ?_
   refine W.draw Tryz.follows h (fun w h => ?_)
   refine WT.pure 0 rfl (by kernel_rfl) (fun w' => run_move) rfl rfl ?_
   refine WT.dec 1 rfl (by kernel_rfl) (fun w' => (run_gtr rfl rfl)) rfl rfl (fun c74 => ?_) (fun c74 => ?_)
   ·
    refine WT.pure 2 rfl (by kernel_rfl) (fun w' => run_move) rfl rfl (WT.pure 3 rfl (by kernel_rfl) (fun w' => run_move) rfl rfl (WT.pure 4 rfl (by kernel_rfl) (fun w' => run_move) rfl rfl (WT.pure 5 rfl (by kernel_rfl) (fun w' => (run_sub rfl rfl (by omega) (by omega))) rfl rfl (WT.pure 6 rfl (by kernel_rfl) (fun w' => (run_indexAddr underlying129 sizeOf23 rfl rfl (by omega) (by omega))) rfl rfl (WT.load1 7 rfl (by kernel_rfl) isAgg23 rfl (RowU.cellZ h (by omega) (by omega)) rfl rfl (WT.pure 8 rfl (by kernel_rfl) (fun w' => run_move) rfl rfl (WT.pure 9 rfl (by kernel_rfl) (fun w' => run_move) rfl rfl ?_)))))))
    refine WT.pure 10 rfl (by kernel_rfl) (fun w' => (run_indexAddr underlying129 sizeOf23 rfl rfl (by omega) (by omega))) rfl rfl (WT.load1 11 rfl (by kernel_rfl) isAgg23 rfl (RowU.cellZ h (by omega) (by omega)) rfl rfl (WT.eff 12 [false, false] rfl (by kernel_rfl) (by kernel_rfl) (eff_call call157 (less_ok h)) rfl rfl ?_))
    rintro _ w ⟨⟨b85, rfl⟩, h⟩
    refine ⟨trivial, ?_⟩
    refine WT.pure 13 rfl (by kernel_rfl) (fun w' => (run_not rfl)) rfl rfl (WT.pure 14 rfl (by kernel_rfl) (fun w' => (run_pickT rfl)) rfl rfl (WT.done (by kernel_rfl) ?_))
    refine W.condB rfl (fun c36 => ?_) (fun c36 => ?_)
    ·
     refine W.seq (W.region (WL.val run_move rfl rfl (WL.val run_move rfl rfl (WL.val run_move rfl rfl (WL.val run_move rfl rfl (WL.eff (eff_call call158 (parteq_ok (a := a1) (b := b1) (p := p) (by omega) (by omega) (by omega) (by omega) hn h)) rfl rfl ?_))))))
     rintro _ w ⟨q1, hq1, hq2, rfl, h⟩
     refine WL.val run_assign rfl rfl (WL.nil (W.seq (W.region (WL.val run_move rfl rfl (WL.val run_assign rfl rfl (WL.nil (W.exit ?_)))))))
     exact ⟨(q1, b1, l2), ⟨q1, b1, l2, rfl, by omega, _, _, _, mkE_of ⟨rfl, rfl, rfl, rfl, rfl, rfl, trivial⟩, h⟩, by show (b1 - q1).toNat < (b1 - a1).toNat; omega⟩
    refine W.skip ?_
    exact ⟨by omega, _, mkE_of ⟨rfl, rfl, rfl, rfl, rfl, rfl, rfl, rfl, rfl, trivial⟩, h⟩
   refine WT.pure 2 rfl (by kernel_rfl) (fun w' => run_move) rfl rfl (WT.skip 3 rfl (by kernel_rfl) rfl rfl (WT.skip 4 rfl (by kernel_rfl) rfl rfl (WT.skip 5 rfl (by kernel_rfl) rfl rfl (WT.skip 6 rfl (by kernel_rfl) rfl rfl (WT.skip 7 rfl (by kernel_rfl) rfl rfl (WT.skip 8 rfl (by kernel_rfl) rfl rfl (WT.skip 9 rfl (by kernel_rfl) rfl rfl ?_)))))))
   refine WT.skip 10 rfl (by kernel_rfl) rfl rfl (WT.skip 11 rfl (by kernel_rfl) rfl rfl (WT.skip 12 rfl (by kernel_rfl) rfl rfl (WT.skip 13 rfl (by kernel_rfl) rfl rfl (WT.pure 14 rfl (by kernel_rfl) (fun w' => (run_pickF rfl)) rfl rfl (WT.done (by kernel_rfl) (W.condF rfl (W.skip ?_)))))))
   exact ⟨by omega, _, mkE_of ⟨rfl, rfl, rfl, rfl, rfl, rfl, rfl, rfl, rfl, trivial⟩, h⟩
  rintro env w ⟨hC28, jk, rfl, h⟩
  refine W.seq (W.region (WL.val run_move rfl rfl (WL.val run_move rfl rfl (WL.val run_move rfl rfl (WL.val run_move rfl rfl (WL.eff (eff_call call159 (qpart_ok (a := a1) (b := b1) (p := p) (by omega) (by omega) (by omega) (by omega) hn h)) rfl rfl ?_))))))
  rintro _ w ⟨md, ap, hq1, hq2, rfl, h⟩
  refine WL.val run_move rfl rfl (WL.val (run_extract rfl rfl) rfl rfl (WL.val (run_extract rfl rfl) rfl rfl (WL.val run_assign rfl rfl (WL.val run_assign rfl rfl (WL.nil (W.seq (W.region ?_)))))))
  refine WL.val run_move rfl rfl (WL.val run_assign rfl rfl (WL.nil (W.seq (W.region (WL.val run_move rfl rfl (WL.val run_move rfl rfl (WL.val (run_sub rfl rfl (by omega) (by omega)) rfl rfl ?_)))))))
  refine WL.val run_move rfl rfl (WL.val run_move rfl rfl (WL.val (run_sub rfl rfl (by omega) (by omega)) rfl rfl (WL.val run_assign rfl rfl (WL.val run_assign rfl rfl (WL.nil (W.seq (W.region ?_)))))))
  refine WL.val run_move rfl rfl (WL.val (run_quo rfl rfl (by omega) (by omega) (by omega)) rfl rfl (WL.val run_assign rfl rfl (WL.nil (W.seq (W.region (WL.val run_move rfl rfl (WL.val run_move rfl rfl ?_)))))))
  refine WL.val (run_lss rfl rfl) rfl rfl (WL.nil ?_)
  refine W.condIf rfl (fun c46 => ?_) (fun c46 => ?_)
  ·
   refine W.seq (W.region (WL.val run_move rfl rfl (WL.val run_move rfl rfl (WL.val (run_geq rfl rfl) rfl rfl (WL.val run_assign rfl rfl (WL.nil (W.seq ?_)))))))
   refine W.region (WL.val run_move rfl rfl (WL.val run_move rfl rfl (WL.val run_move rfl rfl (WL.val run_move rfl rfl (WL.eff (eff_call call147 (IH a1 md l2 _ (by omega) (by omega) (by omega) (by omega) (by omega) (by omega) h)) rfl rfl ?_)))))
   rintro _ w h
   refine WL.nil (W.region (WL.val run_move rfl rfl (WL.val (run_add rfl rfl (by omega) (by omega)) rfl rfl (WL.val run_assign rfl rfl (WL.nil ?_)))))
   exact ⟨(md + 1, b1, l2), ⟨md + 1, b1, l2, rfl, by omega, _, _, _, mkE_of ⟨rfl, rfl, rfl, rfl, rfl, rfl, trivial⟩, h⟩, by show (b1 - (md + 1)).toNat < (b1 - a1).toNat; omega⟩
  refine W.seq (W.region (WL.val run_move rfl rfl (WL.val run_move rfl rfl (WL.val (run_geq rfl rfl) rfl rfl (WL.val run_assign rfl rfl (WL.nil (W.seq ?_)))))))
  refine W.region (WL.val run_move rfl rfl (WL.val run_move rfl rfl (WL.val (run_add rfl rfl (by omega) (by omega)) rfl rfl (WL.val run_move rfl rfl (WL.val run_move rfl rfl (WL.eff (eff_call call147 (IH (md + 1) b1 l2 _ (by omega) (by omega) (by omega) (by omega) (by omega) (by omega) h)) rfl rfl ?_))))))
  rintro _ w h
  refine WL.nil (W.region (WL.val run_move rfl rfl (WL.val run_assign rfl rfl (WL.nil ?_))))
  exact ⟨(a1, md, l2), ⟨a1, md, l2, rfl, by omega, _, _, _, mkE_of ⟨rfl, rfl, rfl, rfl, rfl, rfl, trivial⟩, h⟩, by show (md - a1).toNat < (b1 - a1).toNat; omega⟩
theorem pdqA_ok {bd od n cp : Nat} (hn : n < 65536) : ∀ (m : Nat) (a b lim : Int) (w : World), 0 ≤ a → a ≤ b → b ≤ (n : Int) → 0 ≤ lim → lim ≤ 100 → b - a ≤ (m : Int) → On W0 (RowU Q (.slice (some ⟨bd, od, none⟩) n cp) n :: L) w → Calls Tryz.prog 147 #[.slice (some ⟨bd, od, none⟩) n cp, .int .i64 a, .int .i64 b, .int .i64 lim] w (Ret fun v w' => On W0 (RowU Q (.slice (some ⟨bd, od, none⟩) n cp) n :: L) w')
  | 0, a, b, lim, w, h0, h1, h2, h3, h4, h5, h => pdqS_ok (m := 0) (fun a b lim w k0 k1 k2 k3 k4 k5 _ => absurd k5 (by omega)) h0 h1 h2 h3 h4 h5 hn h
  | m + 1, a, b, lim, w, h0, h1, h2, h3, h4, h5, h => pdqS_ok (m := m + 1) (fun a b lim w k0 k1 k2 k3 k4 k5 hh => pdqA_ok hn m a b lim w k0 k1 k2 k3 k4 (by omega) hh) h0 h1 h2 h3 h4 h5 hn h
theorem sortS_ok {bd od n cp : Nat} (hn : n < 65536) (h : On W0 (RowU Q (.slice (some ⟨bd, od, none⟩) n cp) n :: L) w) : Calls Tryz.prog 137 #[.slice (some ⟨bd, od, none⟩) n cp] w (Ret fun v w' => On W0 (RowU Q (.slice (some ⟨bd, od, none⟩) n cp) n :: L) w') := by
  refine enter func137 rfl ntmps137 rfl (W.seq (W.region (WL.val run_move rfl rfl (WL.val (run_lenSlice underlying129 rfl) rfl rfl (WL.val run_assign rfl rfl (WL.nil (W.region ?_)))))))
  refine WL.val run_move rfl rfl (WL.val run_move rfl rfl (WL.val run_move rfl rfl (WL.val (run_convIn underlying3 underlying154 rfl (by show (0 : Int) ≤ _; omega) (by show _ ≤ (18446744073709551615 : Int); omega)) rfl rfl (WL.eff (eff_call call148 (blenB_ok (x := n) hn h)) rfl rfl ?_))))
  rintro _ w ⟨z, hz1, hz2, rfl, h⟩
  refine WL.eff (eff_call call147 (pdqA_ok hn n 0 (n : Int) (z : Int) _ (by omega) (by omega) (by omega) (by omega) (by omega) (by omega) h)) rfl rfl ?_
  rintro _ w h
  refine WL.nil (bodyQ.fall (bodyQ.r0 results137 ?_))
  exact h
theorem sortR_ok {a : Option Addr} {n c : Nat} (hn : n < 65536) (h : On W0 (RowU Q (.slice a n c) n :: L) w) : Calls Tryz.prog 137 #[.slice a n c] w (Ret fun v w' => On W0 (RowU Q (.slice a n c) n :: L) w') := by
  by_cases h0 : n ≤ 1
  · exact sortU_ok h0 h
  · obtain ⟨ys, ⟨hl, hq⟩, h2⟩ := RowU.openR h
    obtain ⟨b, o, rfl⟩ := Own.addr h2 (by omega)
    exact sortS_ok hn h
theorem sortedR_ok {bb mb ck : Nat} {kvs : List KV} (hkl : kvs.length < 65536) (h : On W0 (blk bb [.map (some mb)] 63 :: MapC mb .u64 kvs ck :: L) w) : Calls Tryz.prog 102 #[.func (.func 138) #[] #[.pointer (some ⟨bb, 0, none⟩)]] w (Ret fun v w' => ∃ a c, ∃ ss : List Int, ss.length = kvs.length ∧ (∀ y ∈ ss, y ∈ kvs.map (·.1)) ∧ v = .slice a ss.length c ∧ On W0 (Own 1 (.slice a ss.length c) ss.length (ss.map (Value.int .u64)) :: blk bb [.map (some mb)] 63 :: MapC mb .u64 kvs ck :: L) w') := by
  refine enter func102 rfl ntmps102 rfl (W.seq (W.region (WL.val run_assign rfl rfl (WL.nil (W.seq (W.region (WL.val run_move rfl rfl ?_)))))))
  refine WL.eff (eff_call call136 (collectU_ok (by omega) h)) rfl rfl ?_
  rintro _ w ⟨a, c, ss, hS, rfl, h⟩
  have hsl : ss.length = kvs.length := by rw [hS.length_eq, List.length_map]
  have h := RowU.closeR (Q := fun y => y ∈ kvs.map (·.1)) (n := ss.length) rfl (fun y hy => hS.mem_iff.1 hy) h
  refine WL.val run_assign rfl rfl (WL.nil (W.seq (W.region (WL.val run_move rfl rfl (WL.eff (eff_call call137 (sortR_ok (by omega) h)) rfl rfl ?_)))))
  rintro _ w h
  refine WL.nil (W.seq (W.region (WL.val run_move rfl rfl (WL.val run_assign rfl rfl (WL.nil (W.ret (bodyQ.r1 (v := .slice _ _ _) results102 rfl ?_)))))))
  have ob_ := RowU.openR h
  obtain ⟨ys, ⟨hyl, hyq⟩, h⟩ := ob_
  rw [← hyl] at h ⊢
  exact ⟨a, c, ys, by omega, hyq, rfl, h⟩
end Go.Proofs.YtjbgiingimhnnaaGreat
