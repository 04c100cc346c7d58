/-
  The contracts of tasks. Lines of walks printed by a program of the prover's.
-/
import Derived.Test.YtbfdkalcpacaaaaTask3
import Derived.Test.YtbfdkalcpacaaaaTaskModel
namespace Go.Proofs.Ytbfdkalcpacaaaa
open Go Go.Sl Go.Sl.TkM
set_option linter.unusedVariables false
set_option linter.unusedSimpArgs false
set_option maxHeartbeats 1000000
set_option maxRecDepth 8000
variable {W0 w : World} {L F : List HProp}

theorem start_ok {b : Nat} {s : TS} {tag : Int} (h : On W0 (SetP 92 b s :: L) w) : Calls Try.prog 23 #[.pointer (some ⟨b, 0, none⟩), .int .u32 tag] w (Ret fun v w' => (findT s tag = -1 ∧ v = .int .i64 6 ∧ On W0 (SetP 92 b s :: L) w') ∨ (∃ i x, findT s tag = ((i : Nat) : Int) ∧ s.l[i]? = some x ∧ ((enB s.l i x = false ∧ v = .int .i64 1 ∧ On W0 (SetP 92 b s :: L) w') ∨ (enB s.l i x = true ∧ v = .int .i64 0 ∧ On W0 (SetP 92 b (startT s i x) :: L) w')))) := by
  refine enter Try.func23 rfl Try.ntmps23 rfl ?_
  refine W.seq ?_
  refine W.region ?_
  refine WL.val run_assign rfl rfl ?_
  refine WL.nil ?_
  refine W.seq ?_
  refine W.region ?_
  refine WL.val run_move rfl rfl ?_
  refine WL.val run_move rfl rfl ?_
  refine WL.eff (eff_call Try.call50 (find_ok h)) rfl rfl ?_
  rintro _ w ⟨hv, h⟩
  have hfc := findT_cases s tag
  rcases hfc with hf | ⟨i, x, hf, hx, hxt⟩ <;> (rw [hf] at hv; subst hv)
  · skip
    refine WL.val run_assign rfl rfl ?_
    refine WL.nil ?_
    refine W.seq ?_
    refine W.block ?_
    refine W.seq ?_
    refine W.region ?_
    refine WL.val run_move rfl rfl ?_
    refine WL.val (run_lssT rfl rfl (by decide)) rfl rfl ?_
    refine WL.val run_assign rfl rfl ?_
    refine WL.nil ?_
    refine W.condT rfl ?_
    refine W.seq ?_
    refine W.region ?_
    refine WL.val run_assign rfl rfl ?_
    refine WL.nil ?_
    refine W.ret ?_
    refine bodyQ.r1 (v := .int .i64 _) Try.results23 rfl ?_
    -- path T
    exact .inl ⟨hf, rfl, h⟩
  · skip
    refine WL.val run_assign rfl rfl ?_
    refine WL.nil ?_
    refine W.seq ?_
    refine W.block ?_
    refine W.seq ?_
    refine W.region ?_
    refine WL.val run_move rfl rfl ?_
    refine WL.val (run_lssF rfl rfl (by omega)) rfl rfl ?_
    refine WL.val run_assign rfl rfl ?_
    refine WL.nil ?_
    refine W.condF rfl ?_
    refine W.seq ?_
    refine W.region ?_
    refine WL.val run_move rfl rfl ?_
    refine WL.val run_move rfl rfl ?_
    refine WL.eff (eff_call Try.call54 (enabled_ok hx h)) rfl rfl ?_
    rintro _ w ⟨rfl, h⟩
    refine WL.val (run_not rfl) rfl rfl ?_
    refine WL.val run_assign rfl rfl ?_
    refine WL.nil ?_
    refine W.condB rfl (fun c8 => ?_) (fun c8 => ?_)
    · skip
      refine W.seq ?_
      refine W.region ?_
      refine WL.val run_assign rfl rfl ?_
      refine WL.nil ?_
      refine W.ret ?_
      refine bodyQ.r1 (v := .int .i64 _) Try.results23 rfl ?_
      -- path FT
      exact .inr ⟨i, x, hf, hx, .inl ⟨by simpa using c8, rfl, h⟩⟩
    · skip
      refine W.skip ?_
      refine W.seq ?_
      have ob_ := openT h
      obtain ⟨a, c, hl, h⟩ := ob_
      have hlt := (List.getElem?_eq_some_iff.1 hx).1
      have ob_ := Own.bounds h.p1
      obtain ⟨hbc, _⟩ := ob_
      have ob_ := Own.addr h.p1 (by omega)
      obtain ⟨ba, oa, rfl⟩ := ob_
      refine W.region ?_
      refine WL.val run_move rfl rfl ?_
      refine WL.val (run_nilCheck rfl) rfl rfl ?_
      refine WL.val (run_fieldAddr 1 Try.underlying92 rfl Try.sizeOf90 rfl rfl) rfl rfl ?_
      refine WL.val (run_load1 Try.isAgg90 rfl (h.cellB rfl)) rfl rfl ?_
      refine WL.val run_move rfl rfl ?_
      refine WL.val (run_indexAddr Try.underlying90 Try.sizeOf96 rfl rfl (by omega) (by omega)) rfl rfl ?_
      refine WL.val (run_fieldAddr 2 Try.underlying96 rfl Try.sizeOf4 rfl rfl) rfl rfl ?_
      refine WL.eff (eff_storeOwn (size := 3) (k := i * 3 + 2) (v := .bool true) h.p1 Try.sizeOf4 rfl rfl rfl (by omega)) rfl rfl ?_
      rintro _ w h
      rw [set_flat s.l i x hx] at h
      refine WL.nil ?_
      refine W.seq ?_
      refine W.region ?_
      refine WL.val run_assign rfl rfl ?_
      refine WL.nil ?_
      refine W.ret ?_
      refine bodyQ.r1 (v := .int .i64 _) Try.results23 rfl ?_
      -- path FF
      have hsl : (startT s i x).l.length = s.l.length := List.length_set ..
      refine .inr ⟨i, x, hf, hx, .inr ⟨by simpa using c8, rfl, closeT (a := some ⟨ba, oa, none⟩) (c := c) (by rw [hsl]; exact hl) ?_⟩⟩
      rw [hsl]
      show On W0 (blk b [.int .i64 s.most, .slice (some ⟨ba, oa, none⟩) s.l.length c] 92 :: Own 3 (.slice (some ⟨ba, oa, none⟩) s.l.length c) s.l.length ((s.l.set i { x with st := true }).flatMap Tk.cells) :: L) w
      exact h.to

theorem done_ok {b : Nat} {s : TS} {tag : Int} (h : On W0 (SetP 92 b s :: L) w) : Calls Try.prog 24 #[.pointer (some ⟨b, 0, none⟩), .int .u32 tag] w (Ret fun v w' => (findT s tag = -1 ∧ v = .int .i64 6 ∧ On W0 (SetP 92 b s :: L) w') ∨ (∃ i x, findT s tag = ((i : Nat) : Int) ∧ s.l[i]? = some x ∧ ((x.st = false ∧ v = .int .i64 1 ∧ On W0 (SetP 92 b s :: L) w') ∨ (x.st = true ∧ v = .int .i64 0 ∧ On W0 (SetP 92 b (delT s i) :: L) w')))) := by
  refine enter Try.func24 rfl Try.ntmps24 rfl ?_
  refine W.seq ?_
  refine W.region ?_
  refine WL.val run_assign rfl rfl ?_
  refine WL.nil ?_
  refine W.seq ?_
  refine W.region ?_
  refine WL.val run_move rfl rfl ?_
  refine WL.val run_move rfl rfl ?_
  refine WL.eff (eff_call Try.call50 (find_ok h)) rfl rfl ?_
  rintro _ w ⟨hv, h⟩
  have hfc := findT_cases s tag
  rcases hfc with hf | ⟨i, x, hf, hx, hxt⟩ <;> (rw [hf] at hv; subst hv)
  · skip
    refine WL.val run_assign rfl rfl ?_
    refine WL.nil ?_
    refine W.seq ?_
    refine W.block ?_
    refine W.seq ?_
    refine W.region ?_
    refine WL.val run_move rfl rfl ?_
    refine WL.val (run_lssT rfl rfl (by decide)) rfl rfl ?_
    refine WL.val run_assign rfl rfl ?_
    refine WL.nil ?_
    refine W.condT rfl ?_
    refine W.seq ?_
    refine W.region ?_
    refine WL.val run_assign rfl rfl ?_
    refine WL.nil ?_
    refine W.ret ?_
    refine bodyQ.r1 (v := .int .i64 _) Try.results24 rfl ?_
    -- path T
    exact .inl ⟨hf, rfl, h⟩
  · skip
    refine WL.val run_assign rfl rfl ?_
    refine WL.nil ?_
    refine W.seq ?_
    refine W.block ?_
    refine W.seq ?_
    refine W.region ?_
    refine WL.val run_move rfl rfl ?_
    refine WL.val (run_lssF rfl rfl (by omega)) rfl rfl ?_
    refine WL.val run_assign rfl rfl ?_
    refine WL.nil ?_
    refine W.condF rfl ?_
    refine W.seq ?_
    have ob_ := openT h
    obtain ⟨a, c, hl, h⟩ := ob_
    have hlt := (List.getElem?_eq_some_iff.1 hx).1
    have ob_ := Own.bounds h.p1
    obtain ⟨hbc, _⟩ := ob_
    have ob_ := Own.addr h.p1 (by omega)
    obtain ⟨ba, oa, rfl⟩ := ob_
    refine W.region ?_
    refine WL.val run_move rfl rfl ?_
    refine WL.val (run_nilCheck rfl) rfl rfl ?_
    refine WL.val (run_fieldAddr 1 Try.underlying92 rfl Try.sizeOf90 rfl rfl) rfl rfl ?_
    refine WL.val (run_load1 Try.isAgg90 rfl (h.cellB rfl)) rfl rfl ?_
    refine WL.val run_move rfl rfl ?_
    refine WL.val (run_indexAddr Try.underlying90 Try.sizeOf96 rfl rfl (by omega) (by omega)) rfl rfl ?_
    refine WL.val (run_fieldAddr 2 Try.underlying96 rfl Try.sizeOf4 rfl rfl) rfl rfl ?_
    refine WL.val (run_load1 Try.isAgg4 rfl ((h.cellsO (v := .slice (some ⟨ba, oa, none⟩) s.l.length c)).elem (i := i) (vs := x.cells) (by omega) (drop_flatMap Tk.cells 3 Tk.cells_length s.l _ _ hx) 2 _ rfl)) rfl rfl ?_
    refine WL.val (run_not rfl) rfl rfl ?_
    refine WL.val run_assign rfl rfl ?_
    refine WL.nil ?_
    refine W.condB rfl (fun c8 => ?_) (fun c8 => ?_)
    · skip
      refine W.seq ?_
      refine W.region ?_
      refine WL.val run_assign rfl rfl ?_
      refine WL.nil ?_
      refine W.ret ?_
      refine bodyQ.r1 (v := .int .i64 _) Try.results24 rfl ?_
      -- path FT
      exact .inr ⟨i, x, hf, hx, .inl ⟨by simpa using c8, rfl, closeT (a := some ⟨ba, oa, none⟩) (c := c) hl h.to⟩⟩
    · skip
      refine W.skip ?_
      refine W.seq ?_
      refine W.region ?_
      refine WL.val run_move rfl rfl ?_
      refine WL.val run_move rfl rfl ?_
      refine WL.val (run_nilCheck rfl) rfl rfl ?_
      refine WL.val (run_fieldAddr 1 Try.underlying92 rfl Try.sizeOf90 rfl rfl) rfl rfl ?_
      refine WL.val (run_load1 Try.isAgg90 rfl (h.cellB rfl)) rfl rfl ?_
      refine WL.val run_move rfl rfl ?_
      refine WL.val run_move rfl rfl ?_
      refine WL.val (run_incN rfl rfl (by omega)) rfl rfl ?_
      refine WL.eff (eff_call Try.call56 (delete_ok (k := i) (by omega) (by omega) cells_oneT (h.fetch (Own 3 (.slice (some ⟨ba, oa, none⟩) s.l.length c) s.l.length (s.l.flatMap Tk.cells))))) rfl rfl ?_
      rintro _ w ⟨n', hn', rfl, h⟩
      refine WL.val (run_nilCheck rfl) rfl rfl ?_
      refine WL.val (run_fieldAddr 1 Try.underlying92 rfl Try.sizeOf90 rfl rfl) rfl rfl ?_
      refine WL.eff (eff_store (v := .slice _ _ _) h Try.sizeOf90 rfl rfl rfl rfl rfl) rfl rfl ?_
      rintro _ w h
      try simp only [Nat.zero_add, Nat.add_zero, List.set_cons_zero, List.set_cons_succ] at h
      refine WL.nil ?_
      refine W.seq ?_
      refine W.region ?_
      refine WL.val run_assign rfl rfl ?_
      refine WL.nil ?_
      refine W.ret ?_
      refine bodyQ.r1 (v := .int .i64 _) Try.results24 rfl ?_
      -- path FF
      have hdl : (delT s i).l.length = n' := by
        show (s.l.take i ++ s.l.drop (i + 1)).length = n'
        rw [List.length_append, List.length_take, List.length_drop]; omega
      have h : On W0 (SetP 92 b (delT s i) :: L) w := by
        refine closeT (a := some ⟨ba, oa, none⟩) (c := c) (by rw [hdl]; omega) ?_
        rw [hdl, show (delT s i).l.flatMap Tk.cells = (s.l.flatMap Tk.cells).take (i * 3) ++ (s.l.flatMap Tk.cells).drop ((i + 1) * 3) from del_flat s.l i]
        show On W0 (blk b [.int .i64 s.most, .slice (some ⟨ba, oa, none⟩) n' c] 92 :: _) w
        exact h.to
      exact .inr ⟨i, x, hf, hx, .inr ⟨by simpa using c8, rfl, h⟩⟩

theorem abort_ok {b : Nat} {s : TS} {tag : Int} (h : On W0 (SetP 92 b s :: L) w) : Calls Try.prog 48 #[.pointer (some ⟨b, 0, none⟩), .int .u32 tag] w (Ret fun v w' => (findT s tag = -1 ∧ v = .bool false ∧ On W0 (SetP 92 b s :: L) w') ∨ (∃ i x, findT s tag = ((i : Nat) : Int) ∧ s.l[i]? = some x ∧ v = .bool true ∧ On W0 (SetP 92 b (delT s i) :: L) w')) := by
  refine enter Try.func48 rfl Try.ntmps48 rfl ?_
  refine W.seq ?_
  refine W.region ?_
  refine WL.val run_assign rfl rfl ?_
  refine WL.nil ?_
  refine W.seq ?_
  refine W.region ?_
  refine WL.val run_move rfl rfl ?_
  refine WL.val run_move rfl rfl ?_
  refine WL.eff (eff_call Try.call50 (find_ok h)) rfl rfl ?_
  rintro _ w ⟨hv, h⟩
  have hfc := findT_cases s tag
  rcases hfc with hf | ⟨i, x, hf, hx, hxt⟩ <;> (rw [hf] at hv; subst hv)
  · skip
    refine WL.val run_assign rfl rfl ?_
    refine WL.nil ?_
    refine W.seq ?_
    refine W.seq ?_
    refine W.region ?_
    refine WL.val run_move rfl rfl ?_
    refine WL.val (run_geqF rfl rfl (by decide)) rfl rfl ?_
    refine WL.nil ?_
    refine W.condF rfl ?_
    refine W.skip ?_
    refine W.seq ?_
    refine W.region ?_
    refine WL.val run_move rfl rfl ?_
    refine WL.val (run_geqF rfl rfl (by decide)) rfl rfl ?_
    refine WL.val run_assign rfl rfl ?_
    refine WL.nil ?_
    refine W.ret ?_
    refine bodyQ.r1 (v := .bool _) Try.results48 rfl ?_
    -- path T
    exact .inl ⟨hf, rfl, h⟩
  · skip
    refine WL.val run_assign rfl rfl ?_
    refine WL.nil ?_
    refine W.seq ?_
    refine W.seq ?_
    refine W.region ?_
    refine WL.val run_move rfl rfl ?_
    refine WL.val (run_geqT rfl rfl (by omega)) rfl rfl ?_
    refine WL.nil ?_
    refine W.condT rfl ?_
    have ob_ := openT h
    obtain ⟨a, c, hl, h⟩ := ob_
    have hlt := (List.getElem?_eq_some_iff.1 hx).1
    have ob_ := Own.bounds h.p1
    obtain ⟨hbc, _⟩ := ob_
    have ob_ := Own.addr h.p1 (by omega)
    obtain ⟨ba, oa, rfl⟩ := ob_
    refine W.region ?_
    refine WL.val run_move rfl rfl ?_
    refine WL.val run_move rfl rfl ?_
    refine WL.val (run_nilCheck rfl) rfl rfl ?_
    refine WL.val (run_fieldAddr 1 Try.underlying92 rfl Try.sizeOf90 rfl rfl) rfl rfl ?_
    refine WL.val (run_load1 Try.isAgg90 rfl (h.cellB rfl)) rfl rfl ?_
    refine WL.val run_move rfl rfl ?_
    refine WL.val run_move rfl rfl ?_
    refine WL.val (run_incN rfl rfl (by omega)) rfl rfl ?_
    refine WL.eff (eff_call Try.call56 (delete_ok (k := i) (by omega) (by omega) cells_oneT (h.fetch (Own 3 (.slice (some ⟨ba, oa, none⟩) s.l.length c) s.l.length (s.l.flatMap Tk.cells))))) rfl rfl ?_
    rintro _ w ⟨n', hn', rfl, h⟩
    refine WL.val (run_nilCheck rfl) rfl rfl ?_
    refine WL.val (run_fieldAddr 1 Try.underlying92 rfl Try.sizeOf90 rfl rfl) rfl rfl ?_
    refine WL.eff (eff_store (v := .slice _ _ _) h Try.sizeOf90 rfl rfl rfl rfl rfl) rfl rfl ?_
    rintro _ w h
    try simp only [Nat.zero_add, Nat.add_zero, List.set_cons_zero, List.set_cons_succ] at h
    refine WL.nil ?_
    refine W.seq ?_
    refine W.region ?_
    refine WL.val run_move rfl rfl ?_
    refine WL.val (run_geqT rfl rfl (by omega)) rfl rfl ?_
    refine WL.val run_assign rfl rfl ?_
    refine WL.nil ?_
    refine W.ret ?_
    refine bodyQ.r1 (v := .bool _) Try.results48 rfl ?_
    -- path F
    have hdl : (delT s i).l.length = n' := by
      show (s.l.take i ++ s.l.drop (i + 1)).length = n'
      rw [List.length_append, List.length_take, List.length_drop]; omega
    have h : On W0 (SetP 92 b (delT s i) :: L) w := by
      refine closeT (a := some ⟨ba, oa, none⟩) (c := c) (by rw [hdl]; omega) ?_
      rw [hdl, show (delT s i).l.flatMap Tk.cells = (s.l.flatMap Tk.cells).take (i * 3) ++ (s.l.flatMap Tk.cells).drop ((i + 1) * 3) from del_flat s.l i]
      show On W0 (blk b [.int .i64 s.most, .slice (some ⟨ba, oa, none⟩) n' c] 92 :: _) w
      exact h.to
    exact .inr ⟨i, x, hf, hx, rfl, h⟩

theorem tenabled_ok {b : Nat} {s : TS} (h : On W0 (SetP 92 b s :: L) w) : Calls Try.prog 22 #[.pointer (some ⟨b, 0, none⟩)] w (Ret fun v w' => ∃ a, v = .slice a (enL s.l s.l.length).length (enL s.l s.l.length).length ∧ On W0 (Own 1 (.slice a (enL s.l s.l.length).length (enL s.l s.l.length).length) (enL s.l s.l.length).length (tagsV s.l (enL s.l s.l.length)) :: SetP 92 b s :: L) w') := by
  refine enter Try.func22 rfl Try.ntmps22 rfl ?_
  have ob_ := openT h
  obtain ⟨a, c, hl, h⟩ := ob_
  have hmx := maxLen_eq
  refine W.seq ?_
  refine W.region ?_
  refine WL.val run_assign rfl rfl ?_
  refine WL.nil ?_
  refine W.scope ?_
  refine W.seq ?_
  refine W.region ?_
  refine WL.val run_assign rfl rfl ?_
  refine WL.nil ?_
  refine W.seq ?_
  refine W.label ?_
  refine W.seq ?_
  refine W.seq ?_
  refine W.region ?_
  refine WL.val run_move rfl rfl ?_
  refine WL.val (run_nilCheck rfl) rfl rfl ?_
  refine WL.val (run_fieldAddr 1 Try.underlying92 rfl Try.sizeOf90 rfl rfl) rfl rfl ?_
  refine WL.val (run_load1 Try.isAgg90 rfl (h.cellB rfl)) rfl rfl ?_
  refine WL.val (run_lenSlice Try.underlying90 rfl) rfl rfl ?_
  refine WL.val run_move rfl rfl ?_
  refine WL.nil ?_
  refine W.block ?_
  refine W.loop (fun (k : Nat) env w => ∃ (j : Env) (ao : Option Addr) (co : Nat), env = mkE j [(0, .pointer (some ⟨b, 0, none⟩)), (3, .slice ao (enL s.l k).length co), (9, .slice a s.l.length c), (10, .int .i64 ((s.l.length : Nat) : Int)), (11, .int .i64 (k : Int))] ∧ k ≤ s.l.length ∧ On W0 (Own 1 (.slice ao (enL s.l k).length co) (enL s.l k).length (tagsV s.l (enL s.l k)) :: blk b [.int .i64 s.most, .slice a s.l.length c] 92 :: Own 3 (.slice a s.l.length c) s.l.length (s.l.flatMap Tk.cells) :: L) w) (fun k => s.l.length - k) (0) ?_ ?_
  · exact ⟨_, none, 0, mkE_of ⟨rfl, rfl, rfl, rfl, rfl, trivial⟩, Nat.zero_le _, h.ownEmpty 1 none⟩
  · rintro k env w ⟨j, ao, co, rfl, hk, h⟩
    have hle := enL_len s.l k
    refine W.seq ?_
    refine W.region ?_
    refine WL.val (run_lss rfl rfl) rfl rfl ?_
    refine WL.nil ?_
    refine W.seq ?_
    refine W.condIf rfl (fun c8 => ?_) (fun c8 => ?_)
    · skip
      refine W.skip ?_
      refine W.seq ?_
      refine W.block ?_
      refine W.seq ?_
      have ob_ : ∃ x, s.l[k]? = some x := ⟨s.l[k]'(by omega), by simp⟩
      obtain ⟨x, hx⟩ := ob_
      have ob_ := (h.cellsO (v := .slice a s.l.length c)).addr (by omega)
      obtain ⟨ba, oa, haa⟩ := ob_
      subst haa
      refine W.region ?_
      refine WL.val run_move rfl rfl ?_
      refine WL.val (run_indexAddr Try.underlying90 Try.sizeOf96 rfl rfl (by omega) (by omega)) rfl rfl ?_
      refine WL.val (run_loadN Try.isAgg96 Try.sizeOf96 rfl rfl ((h.cellsO (v := .slice (some ⟨ba, oa, none⟩) s.l.length c)).elem (i := k) (vs := x.cells) (by omega) (drop_flatMap Tk.cells 3 Tk.cells_length s.l _ _ hx))) rfl rfl ?_
      refine WL.eff (eff_alloc h Try.zeroValue96 rfl) rfl rfl ?_
      rintro _ w ⟨b5, rfl, h⟩
      refine WL.val run_assign rfl rfl ?_
      refine WL.eff (eff_storeN (vs := x.cells) h Try.sizeOf96 rfl rfl rfl rfl rfl (fun k _ _ => free0 k)) rfl rfl ?_
      rintro _ w h
      have h : On W0 (blk b5 x.cells 96 :: _) w := h
      refine WL.nil ?_
      refine W.seq ?_
      refine W.seq ?_
      refine W.region ?_
      refine WL.val run_move rfl rfl ?_
      refine WL.val run_move rfl rfl ?_
      refine WL.eff (eff_call Try.call54 (enabledO_ok (a := some ⟨ba, oa, none⟩) (c := c) hl hx (h.p3.p3))) rfl rfl ?_
      rintro _ w ⟨rfl, h⟩
      refine WL.val (run_not rfl) rfl rfl ?_
      refine WL.nil ?_
      refine W.condB rfl (fun c14 => ?_) (fun c14 => ?_)
      · skip
        refine W.exit ?_
        refine W.region ?_
        refine WL.val (run_incN rfl rfl (by omega)) rfl rfl ?_
        refine WL.val run_move rfl rfl ?_
        refine WL.nil ?_
        -- round, path LTT
        have e : enL s.l (k + 1) = enL s.l k := by rw [enL_succ hx, if_neg (by simp at c14; rw [c14]; decide), List.append_nil]
        exact ⟨k + 1, ⟨_, ao, co, mkE_of ⟨rfl, (by rw [e]; rfl), rfl, rfl, rfl, trivial⟩, by omega, (by rw [e]; exact h.to)⟩, by show s.l.length - (k + 1) < s.l.length - k; omega⟩
      · skip
        refine W.skip ?_
        refine W.region ?_
        refine WL.val run_move rfl rfl ?_
        refine WL.val (run_fieldAddr 0 Try.underlying96 rfl Try.sizeOf59 rfl rfl) rfl rfl ?_
        refine WL.val (run_load1 Try.isAgg59 rfl (h.cellB rfl)) rfl rfl ?_
        refine WL.eff (eff_mkSlice (zl := [.int .u32 0]) (out := [.int .u32 _]) h Try.underlying60 Try.sizeOf59 Try.zeroValue59 (by decide) (by kernel_rfl) rfl rfl (by simp) (⟨⟨_, _, rfl, rfl, by decide⟩, trivial⟩) rfl rfl (by simp [maxLen])) rfl rfl ?_
        rintro _ w ⟨b23, rfl, h⟩
        refine WL.eff (eff_app (c2 := 1) (bytes := 4) h rfl rfl (h.cellsO (v := .slice (some ⟨b23, 0, none⟩) 1 1)) Try.underlying60 rfl rfl rfl rfl rfl (by omega) (by omega) (by simp [Value.oneCell'])) rfl rfl ?_
        rintro _ w ⟨a24, c24, rfl, h⟩
        have h : On W0 (Own 1 (.slice a24 ((enL s.l k).length + 1) c24) ((enL s.l k).length + 1) (tagsV s.l (enL s.l k) ++ [.int .u32 x.tag]) :: _) w := h
        refine WL.val run_assign rfl rfl ?_
        refine WL.nil ?_
        refine W.region ?_
        refine WL.val (run_incN rfl rfl (by omega)) rfl rfl ?_
        refine WL.val run_move rfl rfl ?_
        refine WL.nil ?_
        -- round, path LTF
        have e : enL s.l (k + 1) = enL s.l k ++ [k] := by rw [enL_succ hx, if_pos (by simpa using c14)]
        have el : (enL s.l (k + 1)).length = (enL s.l k).length + 1 := by rw [e, List.length_append]; rfl
        exact ⟨k + 1, ⟨_, a24, c24, mkE_of ⟨rfl, (by rw [el]; rfl), rfl, rfl, rfl, trivial⟩, by omega, (by rw [el, e, ← tagsV_snoc hx]; exact h.to)⟩, by show s.l.length - (k + 1) < s.l.length - k; omega⟩
    · skip
      refine W.exit ?_
      refine W.seq ?_
      refine W.region ?_
      refine WL.val run_move rfl rfl ?_
      refine WL.eff (eff_call Try.call55 (clip_tags h)) rfl rfl ?_
      rintro _ w ⟨rfl, h⟩
      refine WL.val run_assign rfl rfl ?_
      refine WL.nil ?_
      refine W.ret ?_
      refine bodyQ.r1 (v := .slice _ _ _) Try.results22 rfl ?_
      -- path LF
      have ob_ : k = s.l.length := by omega
      obtain rfl := ob_
      exact ⟨ao, rfl, (closeT (a := a) (c := c) hl h.p2.p2).p1⟩

theorem waiting_ok {b : Nat} {s : TS} (h : On W0 (SetP 92 b s :: L) w) : Calls Try.prog 49 #[.pointer (some ⟨b, 0, none⟩)] w (Ret fun v w' => ∃ a, v = .slice a (wtL s.l s.l.length) (wtL s.l s.l.length) ∧ On W0 (SetP 92 b s :: L) w') := by
  refine enter Try.func49 rfl Try.ntmps49 rfl ?_
  have ob_ := openT h
  obtain ⟨a, c, hl, h⟩ := ob_
  have hmx := maxLen_eq
  refine W.seq ?_
  refine W.region ?_
  refine WL.val run_assign rfl rfl ?_
  refine WL.nil ?_
  refine W.seq ?_
  refine W.region ?_
  refine WL.val run_assign rfl rfl ?_
  refine WL.nil ?_
  refine W.seq ?_
  refine W.seq ?_
  refine W.region ?_
  refine WL.val run_move rfl rfl ?_
  refine WL.val (run_nilCheck rfl) rfl rfl ?_
  refine WL.val (run_fieldAddr 1 Try.underlying92 rfl Try.sizeOf90 rfl rfl) rfl rfl ?_
  refine WL.val (run_load1 Try.isAgg90 rfl (h.cellB rfl)) rfl rfl ?_
  refine WL.val (run_lenSlice Try.underlying90 rfl) rfl rfl ?_
  refine WL.val run_move rfl rfl ?_
  refine WL.nil ?_
  refine W.block ?_
  refine W.loop (fun (k : Nat) env w => ∃ (j : Env) (ao : Option Addr) (co : Nat) (xs : List Value), env = mkE j [(3, .slice ao (wtL s.l k) co), (9, .slice a s.l.length c), (10, .int .i64 ((s.l.length : Nat) : Int)), (11, .int .i64 (k : Int))] ∧ k ≤ s.l.length ∧ wtL s.l k ≤ k ∧ On W0 (Own 1 (.slice ao (wtL s.l k) co) (wtL s.l k) xs :: blk b [.int .i64 s.most, .slice a s.l.length c] 92 :: Own 3 (.slice a s.l.length c) s.l.length (s.l.flatMap Tk.cells) :: L) w) (fun k => s.l.length - k) (0) ?_ ?_
  · exact ⟨_, none, 0, [], mkE_of ⟨rfl, rfl, rfl, rfl, trivial⟩, Nat.zero_le _, Nat.le_refl _, h.ownEmpty 1 none⟩
  · rintro k env w ⟨j, ao, co, xs, rfl, hk, hle, h⟩
    refine W.seq ?_
    refine W.region ?_
    refine WL.val (run_lss rfl rfl) rfl rfl ?_
    refine WL.nil ?_
    refine W.seq ?_
    refine W.condIf rfl (fun c6 => ?_) (fun c6 => ?_)
    · skip
      refine W.skip ?_
      refine W.seq ?_
      refine W.block ?_
      refine W.seq ?_
      have ob_ : ∃ x, s.l[k]? = some x := ⟨s.l[k]'(by omega), by simp⟩
      obtain ⟨x, hx⟩ := ob_
      have ob_ := (h.cellsO (v := .slice a s.l.length c)).addr (by omega)
      obtain ⟨ba, oa, haa⟩ := ob_
      subst haa
      refine W.region ?_
      refine WL.val (run_indexAddr Try.underlying90 Try.sizeOf96 rfl rfl (by omega) (by omega)) rfl rfl ?_
      refine WL.val (run_loadN Try.isAgg96 Try.sizeOf96 rfl rfl ((h.cellsO (v := .slice (some ⟨ba, oa, none⟩) s.l.length c)).elem (i := k) (vs := x.cells) (by omega) (drop_flatMap Tk.cells 3 Tk.cells_length s.l _ _ hx))) rfl rfl ?_
      refine WL.eff (eff_alloc h Try.zeroValue96 rfl) rfl rfl ?_
      rintro _ w ⟨b5, rfl, h⟩
      refine WL.eff (eff_storeN (vs := x.cells) h Try.sizeOf96 rfl rfl rfl rfl rfl (fun k _ _ => free0 k)) rfl rfl ?_
      rintro _ w h
      have h : On W0 (blk b5 x.cells 96 :: _) w := h
      refine WL.nil ?_
      refine W.seq ?_
      refine W.region ?_
      refine WL.val (run_fieldAddr 2 Try.underlying96 rfl Try.sizeOf4 rfl rfl) rfl rfl ?_
      refine WL.val (run_load1 Try.isAgg4 rfl (h.cellB rfl)) rfl rfl ?_
      refine WL.val (run_not rfl) rfl rfl ?_
      refine WL.nil ?_
      refine W.condB rfl (fun c12 => ?_) (fun c12 => ?_)
      · skip
        refine W.region ?_
        refine WL.val run_move rfl rfl ?_
        refine WL.val (run_fieldAddr 0 Try.underlying96 rfl Try.sizeOf59 rfl rfl) rfl rfl ?_
        refine WL.val (run_load1 Try.isAgg59 rfl (h.cellB rfl)) rfl rfl ?_
        refine WL.eff (eff_mkSlice (zl := [.int .u32 0]) (out := [.int .u32 _]) h Try.underlying60 Try.sizeOf59 Try.zeroValue59 (by decide) (by kernel_rfl) rfl rfl (by simp) (⟨⟨_, _, rfl, rfl, by decide⟩, trivial⟩) rfl rfl (by simp [maxLen])) rfl rfl ?_
        rintro _ w ⟨b21, rfl, h⟩
        refine WL.eff (eff_app (c2 := 1) (bytes := 4) h rfl rfl (h.cellsO (v := .slice (some ⟨b21, 0, none⟩) 1 1)) Try.underlying60 rfl rfl rfl rfl rfl (by omega) (by omega) (by simp [Value.oneCell'])) rfl rfl ?_
        rintro _ w ⟨a22, c22, rfl, h⟩
        refine WL.val run_assign rfl rfl ?_
        refine WL.nil ?_
        refine W.region ?_
        refine WL.val (run_incN rfl rfl (by omega)) rfl rfl ?_
        refine WL.val run_move rfl rfl ?_
        refine WL.nil ?_
        -- round, path LTT
        have e : wtL s.l (k + 1) = wtL s.l k + 1 := by rw [wtL_succ hx, if_neg (by simpa using c12)]
        exact ⟨k + 1, ⟨_, a22, c22, xs ++ [.int .u32 x.tag], mkE_of ⟨(by rw [e]; rfl), rfl, rfl, rfl, trivial⟩, by omega, by omega, (by rw [e]; exact h.to)⟩, by show s.l.length - (k + 1) < s.l.length - k; omega⟩
      · skip
        refine W.skip ?_
        refine W.region ?_
        refine WL.val (run_incN rfl rfl (by omega)) rfl rfl ?_
        refine WL.val run_move rfl rfl ?_
        refine WL.nil ?_
        -- round, path LTF
        have e : wtL s.l (k + 1) = wtL s.l k := by rw [wtL_succ hx, if_pos (by simpa using c12), Nat.add_zero]
        exact ⟨k + 1, ⟨_, ao, co, xs, mkE_of ⟨(by rw [e]; rfl), rfl, rfl, rfl, trivial⟩, by omega, by omega, (by rw [e]; exact h.to)⟩, by show s.l.length - (k + 1) < s.l.length - k; omega⟩
    · skip
      refine W.exit ?_
      refine W.seq ?_
      refine W.region ?_
      refine WL.val run_move rfl rfl ?_
      refine WL.eff (eff_call Try.call55 (clip_tags h)) rfl rfl ?_
      rintro _ w ⟨rfl, h⟩
      refine WL.val run_assign rfl rfl ?_
      refine WL.nil ?_
      refine W.ret ?_
      refine bodyQ.r1 (v := .slice _ _ _) Try.results49 rfl ?_
      -- path LF
      have ob_ : k = s.l.length := by omega
      obtain rfl := ob_
      exact ⟨ao, rfl, closeT (a := a) (c := c) hl h.tail⟩

end Go.Proofs.Ytbfdkalcpacaaaa
