/-
  The contracts of tasks. Lines of walks printed by a program of the prover's.
-/
import Derived.Test.YtbfdkalcpacaaaaTask2
import Derived.Test.YtbfdkalcpacaaaaTaskModel
namespace Go.Proofs.Ytbfdkalcpacaaaa
open Go Go.Sl Go.Sl.TkM
set_option linter.unusedVariables false
set_option linter.unusedSimpArgs false
set_option maxHeartbeats 1000000
set_option maxRecDepth 8000
variable {W0 w : World} {L F : List HProp}

theorem delete_ok {a : Option Addr} {n c k : Nat} {xs : List Value} (hk : k < n) (hn : n ≤ 1000000) (hx1 : ∀ u ∈ xs, u.oneCell' = true) (h : On W0 (Own 3 (.slice a n c) n (xs) :: L) w) :
    Calls Try.prog 56 #[.slice a n c, .int .i64 (k : Int), .int .i64 ((k + 1 : Nat) : Int)] w (Ret fun v w' => ∃ n', n' + 1 = n ∧ v = .slice a n' c ∧
      On W0 (Own 3 (.slice a n' c) n' (xs.take (k * 3) ++ xs.drop ((k + 1) * 3)) :: L) w') := by
  refine enter Try.func56 rfl Try.ntmps56 rfl ?_
  have ob_ := Own.form h
  obtain ⟨a', c', hv, hnc, hcm, hnone⟩ := ob_
  simp only [Value.slice.injEq] at hv
  obtain ⟨rfl, _, rfl⟩ := hv
  have hxl := (Own.openOn h).1
  have hl := maxLen_eq
  refine W.seq ?_
  refine W.region ?_
  refine WL.val run_assign rfl rfl ?_
  refine WL.nil ?_
  refine W.seq ?_
  refine W.region ?_
  refine WL.val run_move rfl rfl ?_
  refine WL.val run_move rfl rfl ?_
  refine WL.val run_move rfl rfl ?_
  refine WL.val run_move rfl rfl ?_
  refine WL.val (run_lenSlice Try.underlying90 rfl) rfl rfl ?_
  refine WL.val (run_cutLHM Try.underlying90 Try.sizeOf96 rfl rfl rfl rfl  (by omega) (by omega) (by omega)) rfl rfl ?_
  refine WL.nil ?_
  refine W.seq ?_
  refine W.seq ?_
  refine W.region ?_
  refine WL.val run_move rfl rfl ?_
  refine WL.val run_move rfl rfl ?_
  refine WL.val (run_eql rfl rfl) rfl rfl ?_
  refine WL.nil ?_
  refine W.condIf rfl (fun c3 => ?_) (fun c3 => ?_)
  · skip
    exfalso; omega
  · skip
    refine W.skip ?_
    refine W.seq ?_
    refine W.region ?_
    refine WL.val run_move rfl rfl ?_
    refine WL.val (run_lenSlice Try.underlying90 rfl) rfl rfl ?_
    refine WL.val run_assign rfl rfl ?_
    refine WL.nil ?_
    refine W.seq ?_
    refine W.draw Try.follows h (fun w h => ?_)
    refine WT.pure 0 rfl (by kernel_rfl) (fun w' => run_move) rfl rfl ?_
    refine WT.pure 1 rfl (by kernel_rfl) (fun w' => run_move) rfl rfl ?_
    refine WT.pure 2 rfl (by kernel_rfl) (fun w' => (run_cutH Try.underlying90 Try.sizeOf96 rfl rfl  (by omega))) rfl rfl ?_
    refine WT.pure 3 rfl (by kernel_rfl) (fun w' => run_move) rfl rfl ?_
    refine WT.pure 4 rfl (by kernel_rfl) (fun w' => run_move) rfl rfl ?_
    refine WT.pure 5 rfl (by kernel_rfl) (fun w' => (run_cutL Try.underlying90 Try.sizeOf96 rfl rfl  (by omega))) rfl rfl ?_
    refine WT.eff 6 [] rfl (by kernel_rfl) (by kernel_rfl) (eff_appendFits (n := k) (m := n - (k + 1)) (cap := c) (Own.front h (by omega)) ((h.cells 0 rfl).cut (l := k + 1) (h := n) (m := c) (by omega) (by omega) (by omega) (by omega)) rfl rfl Try.underlying90 Try.sizeOf96 (by omega) (fun u hu => hx1 u (List.mem_of_mem_drop (List.mem_of_mem_take hu)))) rfl rfl ?_
    rintro _ w ⟨rfl, h⟩
    rw [List.take_of_length_le (l := xs.drop ((k + 1) * 3)) (by rw [List.length_drop, hxl, ← Nat.sub_mul]; exact Nat.le_refl _)] at h
    have ob_ : ∃ n', n' = k + (n - (k + 1)) := ⟨_, rfl⟩
    obtain ⟨n', hn'⟩ := ob_
    rw [← hn'] at h
    refine ⟨trivial, ?_⟩
    refine WT.pure 7 rfl (by kernel_rfl) (fun w' => run_assign) rfl rfl ?_
    refine WT.done (by kernel_rfl) ?_
    refine W.seq ?_
    refine W.region ?_
    refine WL.val run_move rfl rfl ?_
    refine WL.val run_move rfl rfl ?_
    refine WL.val (run_lenSlice Try.underlying90 rfl) rfl rfl ?_
    refine WL.val run_move rfl rfl ?_
    refine WL.val (run_cutLH Try.underlying90 Try.sizeOf96 rfl rfl rfl  (by omega) (by omega)) rfl rfl ?_
    refine WL.eff (eff_clearBehind (n := k + (n - (k + 1))) (m := n) (by rw [← hn']; exact h) (by omega) (by omega) rfl Try.underlying90 Try.zeroValue96 rfl (by simp [Value.cells, Value.oneCell'])) rfl rfl ?_
    rintro _ w h
    refine WL.nil ?_
    refine W.seq ?_
    refine W.region ?_
    refine WL.val run_move rfl rfl ?_
    refine WL.val run_assign rfl rfl ?_
    refine WL.nil ?_
    refine W.ret ?_
    refine bodyQ.r1 (v := .slice _ _ _) Try.results56 rfl ?_
    -- path F
    exact ⟨_, by omega, rfl, h⟩

theorem put_ok {b : Nat} {s : TS} {tag attr : Int} (hm : s.most ≤ 256) (h : On W0 (SetP 92 b s :: L) w) : Calls Try.prog 21 #[.pointer (some ⟨b, 0, none⟩), .int .u32 tag, .int .i64 attr] w (Ret fun v w' => ((attr < 0 ∨ 2 < attr ∨ 0 ≤ findT s tag) ∧ v = .int .i64 1 ∧ On W0 (SetP 92 b s :: L) w') ∨ (¬ (attr < 0 ∨ 2 < attr ∨ 0 ≤ findT s tag) ∧ s.most ≤ s.l.length ∧ v = .int .i64 7 ∧ On W0 (SetP 92 b s :: L) w') ∨ (¬ (attr < 0 ∨ 2 < attr ∨ 0 ≤ findT s tag) ∧ ¬ s.most ≤ s.l.length ∧ v = .int .i64 0 ∧ On W0 (SetP 92 b (insT s (atT s attr) ⟨tag, attr, false⟩) :: L) w')) := by
  refine enter Try.func21 rfl Try.ntmps21 rfl ?_
  refine W.seq ?_
  refine W.region ?_
  refine WL.val run_assign rfl rfl ?_
  refine WL.nil ?_
  refine W.seq ?_
  refine W.block ?_
  refine W.seq ?_
  refine W.region ?_
  refine WL.val run_move rfl rfl ?_
  refine WL.dec (run_lss rfl rfl) rfl rfl (fun c11 => ?_) (fun c11 => ?_)
  · skip
    refine WL.val run_move rfl rfl ?_
    refine WL.skip rfl rfl ?_
    refine WL.skip rfl rfl ?_
    refine WL.val (run_pickT rfl) rfl rfl ?_
    refine WL.val run_move rfl rfl ?_
    refine WL.skip rfl rfl ?_
    refine WL.skip rfl rfl ?_
    refine WL.skip rfl rfl ?_
    refine WL.skip rfl rfl ?_
    refine WL.val (run_pickT rfl) rfl rfl ?_
    refine WL.val run_assign rfl rfl ?_
    refine WL.nil ?_
    refine W.condT rfl ?_
    refine W.seq ?_
    refine W.region ?_
    refine WL.val run_assign rfl rfl ?_
    refine WL.nil ?_
    refine W.ret ?_
    refine bodyQ.r1 (v := .int .i64 _) Try.results21 rfl ?_
    -- path T
    exact .inl ⟨by omega, rfl, h⟩
  · skip
    refine WL.val run_move rfl rfl ?_
    refine WL.val run_move rfl rfl ?_
    refine WL.dec (run_gtr rfl rfl) rfl rfl (fun c14 => ?_) (fun c14 => ?_)
    · skip
      refine WL.val (run_pickF rfl) rfl rfl ?_
      refine WL.val run_move rfl rfl ?_
      refine WL.skip rfl rfl ?_
      refine WL.skip rfl rfl ?_
      refine WL.skip rfl rfl ?_
      refine WL.skip rfl rfl ?_
      refine WL.val (run_pickT rfl) rfl rfl ?_
      refine WL.val run_assign rfl rfl ?_
      refine WL.nil ?_
      refine W.condT rfl ?_
      refine W.seq ?_
      refine W.region ?_
      refine WL.val run_assign rfl rfl ?_
      refine WL.nil ?_
      refine W.ret ?_
      refine bodyQ.r1 (v := .int .i64 _) Try.results21 rfl ?_
      -- path FT
      exact .inl ⟨by omega, rfl, h⟩
    · skip
      refine WL.val (run_pickF rfl) rfl rfl ?_
      refine WL.val run_move rfl rfl ?_
      refine WL.val run_move rfl rfl ?_
      refine WL.val run_move rfl rfl ?_
      refine WL.eff (eff_call Try.call50 (find_ok h)) rfl rfl ?_
      rintro _ w ⟨rfl, h⟩
      refine WL.dec (run_geq rfl rfl) rfl rfl (fun c20 => ?_) (fun c20 => ?_)
      · skip
        refine WL.val (run_pickF rfl) rfl rfl ?_
        refine WL.val run_assign rfl rfl ?_
        refine WL.nil ?_
        refine W.condT rfl ?_
        refine W.seq ?_
        refine W.region ?_
        refine WL.val run_assign rfl rfl ?_
        refine WL.nil ?_
        refine W.ret ?_
        refine bodyQ.r1 (v := .int .i64 _) Try.results21 rfl ?_
        -- path FFT
        exact .inl ⟨by omega, rfl, h⟩
      · skip
        refine WL.val (run_pickF rfl) rfl rfl ?_
        refine WL.val run_assign rfl rfl ?_
        refine WL.nil ?_
        refine W.condF rfl ?_
        refine W.seq ?_
        have ob_ := openT h
        obtain ⟨a, c, hl, h⟩ := ob_
        refine W.draw Try.follows h (fun w h => ?_)
        refine WT.pure 0 rfl (by kernel_rfl) (fun w' => run_move) rfl rfl ?_
        refine WT.pure 1 rfl (by kernel_rfl) (fun w' => (run_nilCheck rfl)) rfl rfl ?_
        refine WT.pure 2 rfl (by kernel_rfl) (fun w' => (run_fieldAddr 1 Try.underlying92 rfl Try.sizeOf90 rfl rfl)) rfl rfl ?_
        refine WT.load1 3 rfl (by kernel_rfl) Try.isAgg90 rfl (h.cellB rfl) rfl rfl ?_
        refine WT.pure 4 rfl (by kernel_rfl) (fun w' => (run_lenSlice Try.underlying90 rfl)) rfl rfl ?_
        refine WT.pure 5 rfl (by kernel_rfl) (fun w' => run_move) rfl rfl ?_
        refine WT.pure 6 rfl (by kernel_rfl) (fun w' => (run_nilCheck rfl)) rfl rfl ?_
        refine WT.pure 7 rfl (by kernel_rfl) (fun w' => (run_fieldAddr 0 Try.underlying92 rfl Try.sizeOf3 rfl rfl)) rfl rfl ?_
        refine WT.load1 8 rfl (by kernel_rfl) Try.isAgg3 rfl (h.cellB rfl) rfl rfl ?_
        refine WT.pure 9 rfl (by kernel_rfl) (fun w' => (run_geq rfl rfl)) rfl rfl ?_
        refine WT.pure 10 rfl (by kernel_rfl) (fun w' => run_assign) rfl rfl ?_
        refine WT.done (by kernel_rfl) ?_
        refine W.condIf rfl (fun c7 => ?_) (fun c7 => ?_)
        · skip
          refine W.seq ?_
          refine W.region ?_
          refine WL.val run_assign rfl rfl ?_
          refine WL.nil ?_
          refine W.ret ?_
          refine bodyQ.r1 (v := .int .i64 _) Try.results21 rfl ?_
          -- path FFFT
          exact .inr (.inl ⟨by omega, by omega, rfl, closeT (a := a) (c := c) hl h.to⟩)
        · skip
          refine W.skip ?_
          refine W.seq ?_
          refine W.region ?_
          refine WL.val run_move rfl rfl ?_
          refine WL.val (run_nilCheck rfl) rfl rfl ?_
          refine WL.val (run_fieldAddr 1 Try.underlying92 rfl Try.sizeOf90 rfl rfl) rfl rfl ?_
          refine WL.val (run_load1 Try.isAgg90 rfl (h.cellB rfl)) rfl rfl ?_
          refine WL.val (run_lenSlice Try.underlying90 rfl) rfl rfl ?_
          refine WL.val run_assign rfl rfl ?_
          refine WL.nil ?_
          refine W.seq ?_
          refine W.seq ?_
          refine W.region ?_
          refine WL.val run_move rfl rfl ?_
          refine WL.val (run_eql rfl rfl) rfl rfl ?_
          refine WL.nil ?_
          refine W.condIf rfl (fun c13 => ?_) (fun c13 => ?_)
          · skip
            refine W.seq ?_
            refine W.region ?_
            refine WL.val run_move rfl rfl ?_
            refine WL.val (run_nilCheck rfl) rfl rfl ?_
            refine WL.val (run_fieldAddr 1 Try.underlying92 rfl Try.sizeOf90 rfl rfl) rfl rfl ?_
            refine WL.val (run_load1 Try.isAgg90 rfl (h.cellB rfl)) rfl rfl ?_
            refine WL.eff (eff_call Try.call51 (index_ok (a := a) (c := c) (l := s.l) (f := 52) (caps := #[]) (p := fun t => !t.st) h (by omega) (Gives.ownO (v := .slice a s.l.length c)) Try.call52 (fun x w h => put1_ok h))) rfl rfl ?_
            rintro _ w ⟨rfl, h⟩
            refine WL.val run_assign rfl rfl ?_
            refine WL.nil ?_
            refine W.seq ?_
            refine W.region ?_
            refine WL.val run_move rfl rfl ?_
            refine WL.val (run_geq rfl rfl) rfl rfl ?_
            refine WL.nil ?_
            refine W.condIf rfl (fun c16 => ?_) (fun c16 => ?_)
            · skip
              refine W.region ?_
              refine WL.val run_move rfl rfl ?_
              refine WL.val run_assign rfl rfl ?_
              refine WL.nil ?_
              refine W.seq ?_
              have hat : (idxI (fun t => !t.st) s.l) = ((atT s attr : Nat) : Int) := by unfold atT; rw [if_pos ⟨c13, c16⟩]; omega
              have hatl : atT s attr ≤ s.l.length := by
                unfold atT
                rw [if_pos ⟨c13, c16⟩]
                have ob_ := idxI_cases (fun t => !t.st) s.l
                rcases ob_ with ⟨h1, _⟩ | ⟨i, x, h1, h2, _⟩
                · omega
                · have := (List.getElem?_eq_some_iff.1 h2).1; omega
              have hcell : ∀ u ∈ s.l.flatMap Tk.cells, u.oneCell' = true := fun u hu => by
                have ob_ := List.mem_flatMap.1 hu
                obtain ⟨x, _, hx⟩ := ob_
                simp [Tk.cells] at hx
                rcases hx with rfl | rfl | rfl <;> rfl
              refine W.region ?_
              refine WL.val run_move rfl rfl ?_
              refine WL.val run_move rfl rfl ?_
              refine WL.val (run_nilCheck rfl) rfl rfl ?_
              refine WL.val (run_fieldAddr 1 Try.underlying92 rfl Try.sizeOf90 rfl rfl) rfl rfl ?_
              refine WL.val (run_load1 Try.isAgg90 rfl (h.cellB rfl)) rfl rfl ?_
              refine WL.val run_move rfl rfl ?_
              refine WL.val run_move rfl rfl ?_
              refine WL.val run_move rfl rfl ?_
              refine WL.val (run_buildS (pl := [(0, 1), (1, 1), (2, 1)]) (out := [.int .u32 _, .int .i64 _, .bool _]) Try.underlying96 Try.zeroValue96 (fun w => by kernel_rfl) rfl (⟨⟨_, _, rfl, rfl, by decide⟩, ⟨⟨_, _, rfl, rfl, by decide⟩, trivial⟩⟩) rfl) rfl rfl ?_
              refine WL.eff (eff_buildSlice (zl := [.int .u32 0, .int .i64 0, .bool false]) (out := [.int .u32 tag, .int .i64 attr, .bool false]) h Try.underlying90 Try.sizeOf96 Try.zeroValue96 (by decide) (by kernel_rfl) rfl rfl (by simp) (⟨⟨_, _, rfl, rfl, by decide⟩, trivial⟩) rfl) rfl rfl ?_
              rintro _ w ⟨bv, rfl, h⟩
              refine WL.eff (eff_call Try.call53 (insert_okI hat (bv := bv) (vs := [.int .u32 tag, .int .i64 attr, .bool false]) (te := 96) (i := atT s attr) hatl (by omega) rfl hcell (by simp [Value.oneCell']) (h.fetch (Own 3 (.slice a s.l.length c) s.l.length (s.l.flatMap Tk.cells))))) rfl rfl ?_
              rintro _ w ⟨a', c', rfl, h⟩
              refine WL.val (run_nilCheck rfl) rfl rfl ?_
              refine WL.val (run_fieldAddr 1 Try.underlying92 rfl Try.sizeOf90 rfl rfl) rfl rfl ?_
              refine WL.eff (eff_store (v := .slice _ _ _) h Try.sizeOf90 rfl rfl rfl rfl rfl) rfl rfl ?_
              rintro _ w h
              try simp only [Nat.zero_add, Nat.add_zero, List.set_cons_zero, List.set_cons_succ] at h
              refine WL.nil ?_
              refine W.seq ?_
              refine W.region ?_
              refine WL.val run_assign rfl rfl ?_
              refine WL.nil ?_
              refine W.ret ?_
              refine bodyQ.r1 (v := .int .i64 _) Try.results21 rfl ?_
              -- path FFFFTT
              refine .inr (.inr ⟨by omega, by omega, rfl, ?_⟩)
              have hnl : (insT s (atT s attr) ⟨tag, attr, false⟩).l.length = s.l.length + 1 := by
                show (s.l.take _ ++ _ :: s.l.drop _).length = _
                rw [List.length_append, List.length_cons, List.length_take, List.length_drop]; omega
              refine closeT (a := a') (c := c') (by rw [hnl]; omega) ?_
              rw [hnl]
              have hfl : (insT s (atT s attr) ⟨tag, attr, false⟩).l.flatMap Tk.cells = (s.l.flatMap Tk.cells).take (atT s attr * 3) ++ [.int .u32 tag, .int .i64 attr, .bool false] ++ (s.l.flatMap Tk.cells).drop (atT s attr * 3) := by
                rw [take_flatMap Tk.cells 3 Tk.cells_length, dropAll_flatMap Tk.cells 3 Tk.cells_length]
                show (s.l.take _ ++ _ :: s.l.drop _).flatMap Tk.cells = _
                simp [Tk.cells]
              rw [hfl]
              show On W0 (blk b [.int .i64 s.most, .slice a' (s.l.length + 1) c'] 92 :: _) w
              exact h.to
            · skip
              refine W.skip ?_
              refine W.seq ?_
              have hat : ((s.l.length : Nat) : Int) = ((atT s attr : Nat) : Int) := by unfold atT; rw [if_neg (fun hh => c16 hh.2)]
              have hatl : atT s attr ≤ s.l.length := by omega
              have hcell : ∀ u ∈ s.l.flatMap Tk.cells, u.oneCell' = true := fun u hu => by
                have ob_ := List.mem_flatMap.1 hu
                obtain ⟨x, _, hx⟩ := ob_
                simp [Tk.cells] at hx
                rcases hx with rfl | rfl | rfl <;> rfl
              refine W.region ?_
              refine WL.val run_move rfl rfl ?_
              refine WL.val run_move rfl rfl ?_
              refine WL.val (run_nilCheck rfl) rfl rfl ?_
              refine WL.val (run_fieldAddr 1 Try.underlying92 rfl Try.sizeOf90 rfl rfl) rfl rfl ?_
              refine WL.val (run_load1 Try.isAgg90 rfl (h.cellB rfl)) rfl rfl ?_
              refine WL.val run_move rfl rfl ?_
              refine WL.val run_move rfl rfl ?_
              refine WL.val run_move rfl rfl ?_
              refine WL.val (run_buildS (pl := [(0, 1), (1, 1), (2, 1)]) (out := [.int .u32 _, .int .i64 _, .bool _]) Try.underlying96 Try.zeroValue96 (fun w => by kernel_rfl) rfl (⟨⟨_, _, rfl, rfl, by decide⟩, ⟨⟨_, _, rfl, rfl, by decide⟩, trivial⟩⟩) rfl) rfl rfl ?_
              refine WL.eff (eff_buildSlice (zl := [.int .u32 0, .int .i64 0, .bool false]) (out := [.int .u32 tag, .int .i64 attr, .bool false]) h Try.underlying90 Try.sizeOf96 Try.zeroValue96 (by decide) (by kernel_rfl) rfl rfl (by simp) (⟨⟨_, _, rfl, rfl, by decide⟩, trivial⟩) rfl) rfl rfl ?_
              rintro _ w ⟨bv, rfl, h⟩
              refine WL.eff (eff_call Try.call53 (insert_okI hat (bv := bv) (vs := [.int .u32 tag, .int .i64 attr, .bool false]) (te := 96) (i := atT s attr) hatl (by omega) rfl hcell (by simp [Value.oneCell']) (h.fetch (Own 3 (.slice a s.l.length c) s.l.length (s.l.flatMap Tk.cells))))) rfl rfl ?_
              rintro _ w ⟨a', c', rfl, h⟩
              refine WL.val (run_nilCheck rfl) rfl rfl ?_
              refine WL.val (run_fieldAddr 1 Try.underlying92 rfl Try.sizeOf90 rfl rfl) rfl rfl ?_
              refine WL.eff (eff_store (v := .slice _ _ _) h Try.sizeOf90 rfl rfl rfl rfl rfl) rfl rfl ?_
              rintro _ w h
              try simp only [Nat.zero_add, Nat.add_zero, List.set_cons_zero, List.set_cons_succ] at h
              refine WL.nil ?_
              refine W.seq ?_
              refine W.region ?_
              refine WL.val run_assign rfl rfl ?_
              refine WL.nil ?_
              refine W.ret ?_
              refine bodyQ.r1 (v := .int .i64 _) Try.results21 rfl ?_
              -- path FFFFTF
              refine .inr (.inr ⟨by omega, by omega, rfl, ?_⟩)
              have hnl : (insT s (atT s attr) ⟨tag, attr, false⟩).l.length = s.l.length + 1 := by
                show (s.l.take _ ++ _ :: s.l.drop _).length = _
                rw [List.length_append, List.length_cons, List.length_take, List.length_drop]; omega
              refine closeT (a := a') (c := c') (by rw [hnl]; omega) ?_
              rw [hnl]
              have hfl : (insT s (atT s attr) ⟨tag, attr, false⟩).l.flatMap Tk.cells = (s.l.flatMap Tk.cells).take (atT s attr * 3) ++ [.int .u32 tag, .int .i64 attr, .bool false] ++ (s.l.flatMap Tk.cells).drop (atT s attr * 3) := by
                rw [take_flatMap Tk.cells 3 Tk.cells_length, dropAll_flatMap Tk.cells 3 Tk.cells_length]
                show (s.l.take _ ++ _ :: s.l.drop _).flatMap Tk.cells = _
                simp [Tk.cells]
              rw [hfl]
              show On W0 (blk b [.int .i64 s.most, .slice a' (s.l.length + 1) c'] 92 :: _) w
              exact h.to
          · skip
            refine W.skip ?_
            refine W.seq ?_
            have hat : ((s.l.length : Nat) : Int) = ((atT s attr : Nat) : Int) := by unfold atT; rw [if_neg (fun hh => c13 hh.1)]
            have hatl : atT s attr ≤ s.l.length := by omega
            have hcell : ∀ u ∈ s.l.flatMap Tk.cells, u.oneCell' = true := fun u hu => by
              have ob_ := List.mem_flatMap.1 hu
              obtain ⟨x, _, hx⟩ := ob_
              simp [Tk.cells] at hx
              rcases hx with rfl | rfl | rfl <;> rfl
            refine W.region ?_
            refine WL.val run_move rfl rfl ?_
            refine WL.val run_move rfl rfl ?_
            refine WL.val (run_nilCheck rfl) rfl rfl ?_
            refine WL.val (run_fieldAddr 1 Try.underlying92 rfl Try.sizeOf90 rfl rfl) rfl rfl ?_
            refine WL.val (run_load1 Try.isAgg90 rfl (h.cellB rfl)) rfl rfl ?_
            refine WL.val run_move rfl rfl ?_
            refine WL.val run_move rfl rfl ?_
            refine WL.val run_move rfl rfl ?_
            refine WL.val (run_buildS (pl := [(0, 1), (1, 1), (2, 1)]) (out := [.int .u32 _, .int .i64 _, .bool _]) Try.underlying96 Try.zeroValue96 (fun w => by kernel_rfl) rfl (⟨⟨_, _, rfl, rfl, by decide⟩, ⟨⟨_, _, rfl, rfl, by decide⟩, trivial⟩⟩) rfl) rfl rfl ?_
            refine WL.eff (eff_buildSlice (zl := [.int .u32 0, .int .i64 0, .bool false]) (out := [.int .u32 tag, .int .i64 attr, .bool false]) h Try.underlying90 Try.sizeOf96 Try.zeroValue96 (by decide) (by kernel_rfl) rfl rfl (by simp) (⟨⟨_, _, rfl, rfl, by decide⟩, trivial⟩) rfl) rfl rfl ?_
            rintro _ w ⟨bv, rfl, h⟩
            refine WL.eff (eff_call Try.call53 (insert_okI hat (bv := bv) (vs := [.int .u32 tag, .int .i64 attr, .bool false]) (te := 96) (i := atT s attr) hatl (by omega) rfl hcell (by simp [Value.oneCell']) (h.fetch (Own 3 (.slice a s.l.length c) s.l.length (s.l.flatMap Tk.cells))))) rfl rfl ?_
            rintro _ w ⟨a', c', rfl, h⟩
            refine WL.val (run_nilCheck rfl) rfl rfl ?_
            refine WL.val (run_fieldAddr 1 Try.underlying92 rfl Try.sizeOf90 rfl rfl) rfl rfl ?_
            refine WL.eff (eff_store (v := .slice _ _ _) h Try.sizeOf90 rfl rfl rfl rfl rfl) rfl rfl ?_
            rintro _ w h
            try simp only [Nat.zero_add, Nat.add_zero, List.set_cons_zero, List.set_cons_succ] at h
            refine WL.nil ?_
            refine W.seq ?_
            refine W.region ?_
            refine WL.val run_assign rfl rfl ?_
            refine WL.nil ?_
            refine W.ret ?_
            refine bodyQ.r1 (v := .int .i64 _) Try.results21 rfl ?_
            -- path FFFFF
            refine .inr (.inr ⟨by omega, by omega, rfl, ?_⟩)
            have hnl : (insT s (atT s attr) ⟨tag, attr, false⟩).l.length = s.l.length + 1 := by
              show (s.l.take _ ++ _ :: s.l.drop _).length = _
              rw [List.length_append, List.length_cons, List.length_take, List.length_drop]; omega
            refine closeT (a := a') (c := c') (by rw [hnl]; omega) ?_
            rw [hnl]
            have hfl : (insT s (atT s attr) ⟨tag, attr, false⟩).l.flatMap Tk.cells = (s.l.flatMap Tk.cells).take (atT s attr * 3) ++ [.int .u32 tag, .int .i64 attr, .bool false] ++ (s.l.flatMap Tk.cells).drop (atT s attr * 3) := by
              rw [take_flatMap Tk.cells 3 Tk.cells_length, dropAll_flatMap Tk.cells 3 Tk.cells_length]
              show (s.l.take _ ++ _ :: s.l.drop _).flatMap Tk.cells = _
              simp [Tk.cells]
            rw [hfl]
            show On W0 (blk b [.int .i64 s.most, .slice a' (s.l.length + 1) c'] 92 :: _) w
            exact h.to

end Go.Proofs.Ytbfdkalcpacaaaa
