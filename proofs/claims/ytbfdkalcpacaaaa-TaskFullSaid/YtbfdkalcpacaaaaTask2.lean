/-
  The contracts of tasks. Lines of walks printed by a program of the prover's.
-/
import Derived.Test.YtbfdkalcpacaaaaTask
import Derived.Test.YtbfdkalcpacaaaaTaskModel
namespace Go.Proofs.Ytbfdkalcpacaaaa
open Go Go.Sl Go.Sl.TkM
set_option linter.unusedVariables false
set_option linter.unusedSimpArgs false
set_option maxHeartbeats 1000000
set_option maxRecDepth 8000
variable {W0 w : World} {L F : List HProp}

theorem insert_ok {a : Option Addr} {n c i bv te : Nat} {xs vs : List Value} [hB : HasBlk L bv vs te (0, 0)] (hi : i ≤ n) (hn : n ≤ 1000000) (hv3 : vs.length = 3) (hx1 : ∀ u ∈ xs, u.oneCell' = true) (hv1 : ∀ u ∈ vs, u.oneCell' = true) (h : On W0 (Own 3 (.slice a n c) n (xs) :: L) w) : Calls Try.prog 53 #[.slice a n c, .int .i64 (i : Int), .slice (some ⟨bv, 0, none⟩) 1 1] w (Ret fun v w' => ∃ a' c', v = .slice a' (n + 1) c' ∧ On W0 (Own 3 (.slice a' (n + 1) c') (n + 1) (xs.take (i * 3) ++ vs ++ xs.drop (i * 3)) :: L) w') := by
  refine enter Try.func53 rfl Try.ntmps53 rfl ?_
  have ob_ := Own.form h
  obtain ⟨a', c', hv, hnc, hcm, hnone⟩ := ob_
  simp only [Value.slice.injEq] at hv
  obtain ⟨rfl, _, rfl⟩ := hv
  have hxl := (Own.openOn h).1
  have hl := maxLen_eq
  refine W.seq ?_
  refine W.region ?_
  refine WL.val run_assign rfl rfl ?_
  refine WL.nil ?_
  refine W.seq ?_
  refine W.region ?_
  refine WL.val run_move rfl rfl ?_
  refine WL.val run_move rfl rfl ?_
  refine WL.val (run_cutL Try.underlying90 Try.sizeOf96 rfl rfl  (by omega)) rfl rfl ?_
  refine WL.nil ?_
  refine W.seq ?_
  refine W.region ?_
  refine WL.val run_move rfl rfl ?_
  refine WL.val (run_lenSlice Try.underlying90 rfl) rfl rfl ?_
  refine WL.val run_assign rfl rfl ?_
  refine WL.nil ?_
  refine W.seq ?_
  refine W.seq ?_
  refine W.region ?_
  refine WL.val run_move rfl rfl ?_
  refine WL.val (run_eqlF rfl rfl (by decide)) rfl rfl ?_
  refine WL.nil ?_
  refine W.condF rfl ?_
  refine W.skip ?_
  refine W.seq ?_
  refine W.region ?_
  refine WL.val run_move rfl rfl ?_
  refine WL.val (run_lenSlice Try.underlying90 rfl) rfl rfl ?_
  refine WL.val run_assign rfl rfl ?_
  refine WL.nil ?_
  refine W.seq ?_
  refine W.seq ?_
  refine W.region ?_
  refine WL.val run_move rfl rfl ?_
  refine WL.val run_move rfl rfl ?_
  refine WL.val (run_eql rfl rfl) rfl rfl ?_
  refine WL.nil ?_
  refine W.condIf rfl (fun c10 => ?_) (fun c10 => ?_)
  · skip
    refine W.seq ?_
    refine W.region ?_
    refine WL.val run_move rfl rfl ?_
    refine WL.val run_move rfl rfl ?_
    refine WL.eff (eff_append (size := 3) (m := 1) (bytes := 24) h (h.cellsB (b := bv) (l := vs) (e := te) (n := 1) (size := 3) hv3 (by omega)) rfl rfl Try.underlying90 rfl rfl rfl rfl rfl (by omega) (by omega) hv1) rfl rfl ?_
    rintro _ w ⟨a', c', rfl, h⟩
    refine WL.val run_assign rfl rfl ?_
    refine WL.nil ?_
    refine W.ret ?_
    refine bodyQ.r1 (v := .slice _ _ _) Try.results53 rfl ?_
    -- path T
    have hin : i = n := by omega
    subst hin
    rw [List.take_of_length_le (l := xs) (by omega), List.drop_of_length_le (l := xs) (by omega), List.append_nil]
    exact ⟨a', c', rfl, h⟩
  · skip
    refine W.skip ?_
    refine W.seq ?_
    refine W.seq ?_
    have hin : i < n := by omega
    have ob_ := Own.addr h (by omega)
    obtain ⟨b, o, rfl⟩ := ob_
    have hxd : (xs.drop (i * 3)).length = (n - i) * 3 := by rw [List.length_drop, hxl, Nat.sub_mul]
    refine W.region ?_
    refine WL.val run_move rfl rfl ?_
    refine WL.val run_move rfl rfl ?_
    refine WL.val (run_addN (m := n) (n := 1) rfl rfl (by omega)) rfl rfl ?_
    refine WL.val run_move rfl rfl ?_
    refine WL.val (run_capSlice Try.underlying90 rfl) rfl rfl ?_
    refine WL.val (run_gtr rfl rfl) rfl rfl ?_
    refine WL.nil ?_
    refine W.condIf rfl (fun c15 => ?_) (fun c15 => ?_)
    · skip
      refine W.seq ?_
      refine W.region ?_
      refine WL.val run_move rfl rfl ?_
      refine WL.val run_move rfl rfl ?_
      refine WL.val (run_cutH Try.underlying90 Try.sizeOf96 rfl rfl  (by omega)) rfl rfl ?_
      refine WL.val run_move rfl rfl ?_
      refine WL.val run_move rfl rfl ?_
      refine WL.val (run_addN (m := n) (n := 1) rfl rfl (by omega)) rfl rfl ?_
      refine WL.val run_move rfl rfl ?_
      refine WL.val (run_subN (m := n + 1) (n := i) rfl rfl (by omega) (by omega)) rfl rfl ?_
      refine WL.eff (eff_appZeros (size := 3) (i := i) (k := n + 1 - i) (bytes := 24) h ((h.cells 0 rfl).front (k := i) (by omega)) rfl rfl (by omega) (by omega) Try.underlying90 Try.underlying3 rfl rfl (by omega) rfl rfl rfl (by omega) (by omega)) rfl rfl ?_
      rintro _ w ⟨b40, c40, hv, h⟩
      have hin1 : i + (n + 1 - i) = n + 1 := by omega
      rw [hin1] at hv h
      subst hv
      have ob_ : ∃ zs, zs = (Builtin.zeroCells (Value.agg #[.int .u32 0, .int .i64 0, .bool false]).cells (n + 1 - i)).toList := ⟨_, rfl⟩
      obtain ⟨zs, hzs⟩ := ob_
      have h : On W0 (Own 3 (.slice (some ⟨b40, 0, none⟩) (n + 1) c40) (n + 1) (xs.take (i * 3) ++ (Builtin.zeroCells (Value.agg #[.int .u32 0, .int .i64 0, .bool false]).cells (n + 1 - i)).toList) :: _) w := h
      rw [← hzs] at h
      have hzl : zs.length = n * 3 + 3 - i * 3 := by rw [hzs]; simp [size_zeroCells, Value.cells]; omega
      have ob_ := Own.bounds h
      obtain ⟨hc40, hc41⟩ := ob_
      refine WL.val run_assign rfl rfl ?_
      refine WL.nil ?_
      refine W.seq ?_
      refine W.region ?_
      refine WL.val run_move rfl rfl ?_
      refine WL.val run_move rfl rfl ?_
      refine WL.val (run_cutLV Try.underlying90 Try.sizeOf96 rfl rfl (by omega) (sliced_add (by omega))) rfl rfl ?_
      refine WL.val run_move rfl rfl ?_
      refine WL.eff (eff_copyPart (size := 3) (lo := i) (m := n + 1 - i) (k := 1) h rfl rfl (h.cellsB (b := bv) (l := vs) (e := te) (n := 1) (size := 3) hv3 (by omega)) rfl Try.underlying90 Try.sizeOf96 (by omega) (fun u hu => hv1 u (List.mem_of_mem_take hu))) rfl rfl ?_
      rintro _ w ⟨_, h⟩
      rw [Nat.min_eq_left (by omega), List.take_of_length_le (l := vs) (by omega)] at h
      refine WL.nil ?_
      refine W.seq ?_
      refine W.draw Try.follows h (fun w h => ?_)
      refine WT.pure 0 rfl (by kernel_rfl) (fun w' => run_move) rfl rfl ?_
      refine WT.pure 1 rfl (by kernel_rfl) (fun w' => run_move) rfl rfl ?_
      refine WT.pure 2 rfl (by kernel_rfl) (fun w' => run_move) rfl rfl ?_
      refine WT.pure 3 rfl (by kernel_rfl) (fun w' => (run_addN (m := i) (n := 1) rfl rfl (by omega))) rfl rfl ?_
      refine WT.pure 4 rfl (by kernel_rfl) (fun w' => (run_cutLV Try.underlying90 Try.sizeOf96 rfl rfl (by omega) (sliced_add (by omega)))) rfl rfl ?_
      refine WT.pure 5 rfl (by kernel_rfl) (fun w' => run_move) rfl rfl ?_
      refine WT.pure 6 rfl (by kernel_rfl) (fun w' => run_move) rfl rfl ?_
      refine WT.pure 7 rfl (by kernel_rfl) (fun w' => (run_cutLV Try.underlying90 Try.sizeOf96 rfl rfl (by omega) (sliced_add (by omega)))) rfl rfl ?_
      refine WT.eff 8 [] rfl (by kernel_rfl) (by kernel_rfl) (eff_copyPart (size := 3) (lo := i + 1) (m := n + 1 - (i + 1)) (k := n - i) (ys := (xs.drop (i * 3)).take ((n - i) * 3)) h rfl rfl (by have := (h.p1.cells 0 rfl).cut (l := i) (h := n) (m := c) (by omega) (by omega) (by omega) (by omega); rw [sliced_add (by omega)] at this; exact this) rfl Try.underlying90 Try.sizeOf96 (by omega) (fun u hu => hx1 u (List.mem_of_mem_drop (List.mem_of_mem_take (List.mem_of_mem_take hu))))) rfl rfl ?_
      rintro _ w ⟨_, h⟩
      rw [Nat.min_eq_left (by omega), List.take_take, Nat.min_self, List.take_of_length_le (l := xs.drop (i * 3)) (by omega), Nat.succ_mul, ins_grow hxl (by omega) hzl hv3] at h
      refine ⟨trivial, ?_⟩
      refine WT.done (by kernel_rfl) ?_
      refine W.seq ?_
      refine W.region ?_
      refine WL.val run_move rfl rfl ?_
      refine WL.val run_assign rfl rfl ?_
      refine WL.nil ?_
      refine W.ret ?_
      refine bodyQ.r1 (v := .slice _ _ _) Try.results53 rfl ?_
      -- path FT
      exact ⟨_, _, rfl, h.d1⟩
    · skip
      refine W.skip ?_
      refine W.seq ?_
      refine W.region ?_
      refine WL.val run_move rfl rfl ?_
      refine WL.val run_move rfl rfl ?_
      refine WL.val run_move rfl rfl ?_
      refine WL.val (run_addN (m := n) (n := 1) rfl rfl (by omega)) rfl rfl ?_
      refine WL.val (run_cutH Try.underlying90 Try.sizeOf96 rfl rfl  (by omega)) rfl rfl ?_
      refine WL.val run_assign rfl rfl ?_
      refine WL.nil ?_
      refine W.seq ?_
      refine W.seq ?_
      have ob_ := Own.longer (k := 1) h (by omega) (by omega)
      obtain ⟨zs, hzl, h⟩ := ob_
      rw [Nat.one_mul] at hzl
      refine W.region ?_
      refine WL.val run_move rfl rfl ?_
      refine WL.val run_move rfl rfl ?_
      refine WL.val run_move rfl rfl ?_
      refine WL.val run_move rfl rfl ?_
      refine WL.val (run_addN (m := i) (n := 1) rfl rfl (by omega)) rfl rfl ?_
      refine WL.val (run_cutLV Try.underlying90 Try.sizeOf96 rfl rfl (by omega) (sliced_add (by omega))) rfl rfl ?_
      refine WL.eff (eff_overlaps (f := 68) (tS := 90) (tR := 4) (e := 96) (size := 3) h hB (by omega) (by omega) Try.func68 (by kernel_rfl) (by kernel_rfl) (by kernel_rfl) (by kernel_rfl) Try.underlying90 Try.sizeOf96 rfl rfl) rfl rfl ?_
      rintro _ w ⟨rfl, h⟩
      refine WL.val (run_not rfl) rfl rfl ?_
      refine WL.nil ?_
      refine W.condT rfl ?_
      refine W.seq ?_
      have etk : (((xs ++ zs).drop (i * 3)).take ((n + 1 - i) * 3)).take (min (n + 1 - i) (n + 1 - (i + 1)) * 3) = xs.drop (i * 3) := by
        rw [Nat.min_eq_right (by omega), List.take_take, Nat.min_eq_left (by omega), List.drop_append_of_le_length (by omega), List.take_append_of_le_length (by omega), List.take_of_length_le (by omega)]
      refine W.draw Try.follows h (fun w h => ?_)
      refine WT.pure 0 rfl (by kernel_rfl) (fun w' => run_move) rfl rfl ?_
      refine WT.pure 1 rfl (by kernel_rfl) (fun w' => run_move) rfl rfl ?_
      refine WT.pure 2 rfl (by kernel_rfl) (fun w' => run_move) rfl rfl ?_
      refine WT.pure 3 rfl (by kernel_rfl) (fun w' => (run_addN (m := i) (n := 1) rfl rfl (by omega))) rfl rfl ?_
      refine WT.pure 4 rfl (by kernel_rfl) (fun w' => (run_cutLV Try.underlying90 Try.sizeOf96 rfl rfl (by omega) (sliced_add (by omega)))) rfl rfl ?_
      refine WT.pure 5 rfl (by kernel_rfl) (fun w' => run_move) rfl rfl ?_
      refine WT.pure 6 rfl (by kernel_rfl) (fun w' => run_move) rfl rfl ?_
      refine WT.pure 7 rfl (by kernel_rfl) (fun w' => (run_cutLV Try.underlying90 Try.sizeOf96 rfl rfl (by omega) (sliced_add (by omega)))) rfl rfl ?_
      refine WT.eff 8 [] rfl (by kernel_rfl) (by kernel_rfl) (eff_copyPart (size := 3) (lo := i + 1) (m := n + 1 - (i + 1)) (k := n + 1 - i) (ys := ((xs ++ zs).drop (i * 3)).take ((n + 1 - i) * 3)) h rfl rfl (by have := (h.cells 0 rfl).cut (l := i) (h := n + 1) (m := c) (by omega) (by omega) (by omega) (by omega); rw [sliced_add (by omega)] at this; exact this) rfl Try.underlying90 Try.sizeOf96 (by omega) (by rw [etk]; exact fun u hu => hx1 u (List.mem_of_mem_drop hu))) rfl rfl ?_
      rintro _ w ⟨_, h⟩
      rw [etk] at h
      refine ⟨trivial, ?_⟩
      refine WT.done (by kernel_rfl) ?_
      refine W.seq ?_
      refine W.region ?_
      refine WL.val run_move rfl rfl ?_
      refine WL.val run_move rfl rfl ?_
      refine WL.val (run_cutLV Try.underlying90 Try.sizeOf96 rfl rfl (by omega) (sliced_add (by omega))) rfl rfl ?_
      refine WL.val run_move rfl rfl ?_
      refine WL.eff (eff_copyPart (size := 3) (lo := i) (m := n + 1 - i) (k := 1) h rfl rfl (h.cellsB (b := bv) (l := vs) (e := te) (n := 1) (size := 3) hv3 (by omega)) rfl Try.underlying90 Try.sizeOf96 (by omega) (fun u hu => hv1 u (List.mem_of_mem_take hu))) rfl rfl ?_
      rintro _ w ⟨_, h⟩
      rw [Nat.min_eq_left (by omega), List.take_of_length_le (l := vs) (by omega), ins_splice hxl hzl hv3 hi] at h
      refine WL.nil ?_
      refine W.seq ?_
      refine W.region ?_
      refine WL.val run_move rfl rfl ?_
      refine WL.val run_assign rfl rfl ?_
      refine WL.nil ?_
      refine W.ret ?_
      refine bodyQ.r1 (v := .slice _ _ _) Try.results53 rfl ?_
      -- path FF
      exact ⟨_, _, rfl, h⟩


theorem insert_okI {a : Option Addr} {n c i bv te : Nat} {z : Int} {xs vs : List Value} [hB : HasBlk L bv vs te (0, 0)] (hz : z = (i : Int)) (hi : i ≤ n) (hn : n ≤ 1000000) (hv3 : vs.length = 3) (hx1 : ∀ u ∈ xs, u.oneCell' = true) (hv1 : ∀ u ∈ vs, u.oneCell' = true) (h : On W0 (Own 3 (.slice a n c) n (xs) :: L) w) : Calls Try.prog 53 #[.slice a n c, .int .i64 z, .slice (some ⟨bv, 0, none⟩) 1 1] w (Ret fun v w' => ∃ a' c', v = .slice a' (n + 1) c' ∧ On W0 (Own 3 (.slice a' (n + 1) c') (n + 1) (xs.take (i * 3) ++ vs ++ xs.drop (i * 3)) :: L) w') := by
  subst hz
  exact insert_ok (bv := bv) (te := te) hi hn hv3 hx1 hv1 h

end Go.Proofs.Ytbfdkalcpacaaaa
