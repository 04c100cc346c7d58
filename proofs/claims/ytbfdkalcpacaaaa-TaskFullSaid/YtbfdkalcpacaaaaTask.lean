/-
  The contracts of tasks. Lines of walks printed by a program of the prover's.
-/
import Derived.Test.YtbfdkalcpacaaaaChecked
import Derived.Test.YtbfdkalcpacaaaaTaskModel
namespace Go.Proofs.Ytbfdkalcpacaaaa
open Go Go.Sl Go.Sl.TkM
set_option linter.unusedVariables false
set_option linter.unusedSimpArgs false
set_option maxHeartbeats 1000000
set_option maxRecDepth 8000
theorem Try.follows : Try.prog.follows .mixedOrders = true := by kernel_rfl
variable {W0 w : World} {L F : List HProp}

theorem put1_ok {x : Tk} (h : On W0 L w) : Calls Try.prog 52 #[.agg x.cells.toArray] w (Ret fun v w' => v = .bool (!x.st) ∧ On W0 L w') := by
  refine enter Try.func52 rfl Try.ntmps52 rfl ?_
  refine W.seq ?_
  refine W.region ?_
  refine WL.eff (eff_box (v := .agg x.cells.toArray) (l := x.cells) h rfl rfl) rfl rfl ?_
  rintro _ w ⟨b1, rfl, h⟩
  refine WL.val run_assign rfl rfl ?_
  refine WL.nil ?_
  refine W.seq ?_
  refine W.region ?_
  refine WL.val (run_fieldAddr 2 Try.underlying96 rfl Try.sizeOf4 rfl rfl) rfl rfl ?_
  refine WL.val (run_load1 Try.isAgg4 rfl (h.cellB rfl)) rfl rfl ?_
  refine WL.val (run_not rfl) rfl rfl ?_
  refine WL.val run_assign rfl rfl ?_
  refine WL.nil ?_
  refine W.ret ?_
  refine bodyQ.r1 (v := .bool _) Try.results52 rfl ?_
  -- path 
  exact ⟨rfl, h.tail⟩

theorem en1_ok {x : Tk} (h : On W0 L w) : Calls Try.prog 71 #[.agg x.cells.toArray] w (Ret fun v w' => v = .bool (decide (x.attr ≠ 0)) ∧ On W0 L w') := by
  refine enter Try.func71 rfl Try.ntmps71 rfl ?_
  refine W.seq ?_
  refine W.region ?_
  refine WL.eff (eff_box (v := .agg x.cells.toArray) (l := x.cells) h rfl rfl) rfl rfl ?_
  rintro _ w ⟨b1, rfl, h⟩
  refine WL.val run_assign rfl rfl ?_
  refine WL.nil ?_
  refine W.seq ?_
  refine W.region ?_
  refine WL.val (run_fieldAddr 1 Try.underlying96 rfl Try.sizeOf3 rfl rfl) rfl rfl ?_
  refine WL.val (run_load1 Try.isAgg3 rfl (h.cellB rfl)) rfl rfl ?_
  refine WL.val (run_neq rfl rfl) rfl rfl ?_
  refine WL.val run_assign rfl rfl ?_
  refine WL.nil ?_
  refine W.ret ?_
  refine bodyQ.r1 (v := .bool _) Try.results71 rfl ?_
  -- path 
  exact ⟨rfl, h.tail⟩

theorem find1_ok {b3 : Nat} {x : Tk} {tag : Int} {cs : List Value} {e : Nat} {fr : Nat × Nat} (h : On W0 L w) [HasBlk L b3 (.int .u32 tag :: cs) e fr] : Calls Try.prog 67 #[.agg x.cells.toArray, .pointer (some ⟨b3, 0, none⟩)] w (Ret fun v w' => v = .bool (decide (x.tag = tag)) ∧ On W0 L w') := by
  refine enter Try.func67 rfl Try.ntmps67 rfl ?_
  refine W.seq ?_
  refine W.region ?_
  refine WL.eff (eff_box (v := .agg x.cells.toArray) (l := x.cells) h rfl rfl) rfl rfl ?_
  rintro _ w ⟨b2, rfl, h⟩
  refine WL.val run_assign rfl rfl ?_
  refine WL.nil ?_
  refine W.seq ?_
  refine W.region ?_
  refine WL.val (run_fieldAddr 0 Try.underlying96 rfl Try.sizeOf59 rfl rfl) rfl rfl ?_
  refine WL.val (run_load1 Try.isAgg59 rfl (h.cellB rfl)) rfl rfl ?_
  refine WL.val (run_load1 Try.isAgg59 rfl (h.cellB rfl)) rfl rfl ?_
  refine WL.val (run_eql rfl rfl) rfl rfl ?_
  refine WL.val run_assign rfl rfl ?_
  refine WL.nil ?_
  refine W.ret ?_
  refine bodyQ.r1 (v := .bool _) Try.results67 rfl ?_
  -- path 
  exact ⟨rfl, h.tail⟩

theorem index_ok {a : Option Addr} {c : Nat} {l : List Tk} {f : FuncId} {caps : Array Value} {p : Tk → Bool} (h : On W0 L w) (hn : l.length ≤ 1000000) (C : Gives L (Cells 3 (.slice a l.length c) l.length (l.flatMap Tk.cells))) (hf : ∀ args w, (callFunc f args).run Try.prog w = .ok (.enter f args) w) (hg : ∀ (x : Tk) (w : World), On W0 L w → Calls Try.prog f (#[.agg x.cells.toArray] ++ caps) w (Ret fun v w' => v = .bool (p x) ∧ On W0 L w')) : Calls Try.prog 51 #[.slice a l.length c, .func (.func f) #[] caps] w (Ret fun v w' => v = .int .i64 (idxI p l) ∧ On W0 L w') := by
  refine enter Try.func51 rfl Try.ntmps51 rfl ?_
  refine W.seq ?_
  refine W.region ?_
  refine WL.val run_assign rfl rfl ?_
  refine WL.nil ?_
  refine W.seq ?_
  refine W.seq ?_
  refine W.region ?_
  refine WL.val run_move rfl rfl ?_
  refine WL.val (run_lenSlice Try.underlying90 rfl) rfl rfl ?_
  refine WL.val run_move rfl rfl ?_
  refine WL.nil ?_
  refine W.block ?_
  refine W.loop (fun (i : Nat) env w => ∃ j, env = mkE j [(0, .slice a l.length c), (1, .func (.func f) #[] caps), (7, .int .i64 ((l.length : Nat) : Int)), (8, .int .i64 (i : Int))] ∧ i ≤ l.length ∧ (∀ j y, j < i → l[j]? = some y → p y = false) ∧ On W0 L w) (fun i => l.length - i) (0) ?_ ?_
  · exact ⟨_, mkE_of ⟨rfl, rfl, rfl, rfl, trivial⟩, Nat.zero_le _, (fun j y hj => by omega), h⟩
  · rintro i env w ⟨j, rfl, hi, hno, h⟩
    refine W.seq ?_
    refine W.region ?_
    refine WL.val (run_lss rfl rfl) rfl rfl ?_
    refine WL.nil ?_
    refine W.seq ?_
    refine W.condIf rfl (fun c5 => ?_) (fun c5 => ?_)
    · skip
      refine W.skip ?_
      refine W.seq ?_
      refine W.block ?_
      refine W.seq ?_
      have ob_ : ∃ x, l[i]? = some x := ⟨l[i]'(by omega), by simp⟩
      obtain ⟨x, hx⟩ := ob_
      have ob_ := (h.reads (Gives.to C)).addr (by omega)
      obtain ⟨ba, oa, rfl⟩ := ob_
      refine W.region ?_
      refine WL.val run_move rfl rfl ?_
      refine WL.val run_assign rfl rfl ?_
      refine WL.nil ?_
      refine W.seq ?_
      refine W.region ?_
      refine WL.val run_move rfl rfl ?_
      refine WL.val run_move rfl rfl ?_
      refine WL.val run_move rfl rfl ?_
      refine WL.val (run_indexAddr Try.underlying90 Try.sizeOf96 rfl rfl (by omega) (by omega)) rfl rfl ?_
      refine WL.val (run_loadN Try.isAgg96 Try.sizeOf96 rfl rfl ((h.reads (Gives.to C)).elem (i := i) (vs := x.cells) (by omega) (drop_flatMap Tk.cells 3 Tk.cells_length l _ _ hx))) rfl rfl ?_
      refine WL.eff (eff_callV (xs := [_]) rfl hf (hg x _ h)) rfl rfl ?_
      rintro _ w ⟨rfl, h⟩
      refine WL.nil ?_
      refine W.condB rfl (fun c11 => ?_) (fun c11 => ?_)
      · skip
        refine W.seq ?_
        refine W.region ?_
        refine WL.val run_move rfl rfl ?_
        refine WL.val run_assign rfl rfl ?_
        refine WL.nil ?_
        refine W.ret ?_
        refine bodyQ.r1 (v := .int .i64 _) Try.results51 rfl ?_
        -- path LTT
        exact ⟨by rw [idxI_hit hx c11 hno], h⟩
      · skip
        refine W.skip ?_
        refine W.region ?_
        refine WL.val (run_incN rfl rfl (by omega)) rfl rfl ?_
        refine WL.val run_move rfl rfl ?_
        refine WL.nil ?_
        -- round, path LTF
        exact ⟨i + 1, ⟨_, mkE_of ⟨rfl, rfl, rfl, rfl, trivial⟩, by omega, (fun j y hj hy => by
          by_cases hji : j = i
          · subst hji; rw [hx] at hy; cases hy; exact c11
          · exact hno j y (by omega) hy), h⟩, by show l.length - (i + 1) < l.length - i; omega⟩
    · skip
      refine W.exit ?_
      refine W.seq ?_
      refine W.region ?_
      refine WL.val run_assign rfl rfl ?_
      refine WL.nil ?_
      refine W.ret ?_
      refine bodyQ.r1 (v := .int .i64 _) Try.results51 rfl ?_
      -- path LF
      exact ⟨by rw [idxI_none fun y hy => by obtain ⟨j, hj⟩ := List.getElem?_of_mem hy; exact hno j y (by have := (List.getElem?_eq_some_iff.1 hj).1; omega) hj], h⟩

theorem contains_ok {a : Option Addr} {c : Nat} {l : List Tk} {f : FuncId} {caps : Array Value} {p : Tk → Bool} (h : On W0 L w) (hn : l.length ≤ 1000000) (C : Gives L (Cells 3 (.slice a l.length c) l.length (l.flatMap Tk.cells))) (hf : ∀ args w, (callFunc f args).run Try.prog w = .ok (.enter f args) w) (hg : ∀ (x : Tk) (w : World), On W0 L w → Calls Try.prog f (#[.agg x.cells.toArray] ++ caps) w (Ret fun v w' => v = .bool (p x) ∧ On W0 L w')) : Calls Try.prog 70 #[.slice a l.length c, .func (.func f) #[] caps] w (Ret fun v w' => v = .bool (l.any p) ∧ On W0 L w') := by
  refine enter Try.func70 rfl Try.ntmps70 rfl ?_
  refine W.seq ?_
  refine W.region ?_
  refine WL.val run_assign rfl rfl ?_
  refine WL.nil ?_
  refine W.seq ?_
  refine W.region ?_
  refine WL.val run_move rfl rfl ?_
  refine WL.val run_move rfl rfl ?_
  refine WL.eff (eff_call Try.call51 (index_ok (p := p) h hn C hf hg)) rfl rfl ?_
  rintro _ w ⟨rfl, h⟩
  refine WL.val (run_geq rfl rfl) rfl rfl ?_
  refine WL.val run_assign rfl rfl ?_
  refine WL.nil ?_
  refine W.ret ?_
  refine bodyQ.r1 (v := .bool _) Try.results70 rfl ?_
  -- path 
  exact ⟨by rw [← idxI_neg], h⟩

theorem clip_tags {a : Option Addr} {n c : Nat} {xs : List Value} (h : On W0 (Own 1 (.slice a n c) n xs :: L) w) :
    Calls Try.prog 55 #[.slice a n c] w (Ret fun v w' => v = .slice a n n ∧ On W0 (Own 1 (.slice a n n) n xs :: L) w') := by
  refine enter Try.func55 rfl Try.ntmps55 rfl ?_
  have ob_ := Own.form h
  obtain ⟨a', c', hv, hnc, hcm, hnone⟩ := ob_
  simp only [Value.slice.injEq] at hv
  obtain ⟨rfl, _, rfl⟩ := hv
  refine W.seq ?_
  refine W.region ?_
  refine WL.val run_assign rfl rfl ?_
  refine WL.nil ?_
  refine W.seq ?_
  refine W.region ?_
  refine WL.val run_move rfl rfl ?_
  refine WL.val run_move rfl rfl ?_
  refine WL.val (run_lenSlice Try.underlying60 rfl) rfl rfl ?_
  refine WL.val run_move rfl rfl ?_
  refine WL.val (run_lenSlice Try.underlying60 rfl) rfl rfl ?_
  refine WL.val (run_cutHM Try.underlying60 Try.sizeOf59 rfl rfl rfl  (by omega) (by omega)) rfl rfl ?_
  refine WL.val run_assign rfl rfl ?_
  refine WL.nil ?_
  refine W.ret ?_
  refine bodyQ.r1 (v := .slice _ _ _) Try.results55 rfl ?_
  -- path 
  exact ⟨rfl, Own.clip h⟩

theorem find_ok {b : Nat} {s : TS} {tag : Int} (h : On W0 (SetP 92 b s :: L) w) : Calls Try.prog 50 #[.pointer (some ⟨b, 0, none⟩), .int .u32 tag] w (Ret fun v w' => v = .int .i64 (findT s tag) ∧ On W0 (SetP 92 b s :: L) w') := by
  refine enter Try.func50 rfl Try.ntmps50 rfl ?_
  have ob_ := openT h
  obtain ⟨a, c, hl, h⟩ := ob_
  refine W.seq ?_
  refine W.region ?_
  refine WL.eff (eff_box (v := .int .u32 _) (l := [.int .u32 _]) h rfl rfl) rfl rfl ?_
  rintro _ w ⟨b3, rfl, h⟩
  refine WL.val run_assign rfl rfl ?_
  refine WL.nil ?_
  refine W.seq ?_
  refine W.region ?_
  refine WL.val run_move rfl rfl ?_
  refine WL.val (run_nilCheck rfl) rfl rfl ?_
  refine WL.val (run_fieldAddr 1 Try.underlying92 rfl Try.sizeOf90 rfl rfl) rfl rfl ?_
  refine WL.val (run_load1 Try.isAgg90 rfl (h.cellB rfl)) rfl rfl ?_
  refine WL.val run_makeFunc rfl rfl ?_
  refine WL.eff (eff_call Try.call51 (index_ok (a := a) (c := c) (l := s.l) (f := 67) (caps := #[.pointer (some ⟨b3, 0, none⟩)]) (p := fun t => decide (t.tag = tag)) h (by omega) (Gives.ownO (v := .slice a s.l.length c)) Try.call67 (fun x w h => find1_ok h))) rfl rfl ?_
  rintro _ w ⟨rfl, h⟩
  refine WL.val run_assign rfl rfl ?_
  refine WL.nil ?_
  refine W.ret ?_
  refine bodyQ.r1 (v := .int .i64 _) Try.results50 rfl ?_
  -- path 
  exact ⟨rfl, closeT (a := a) (c := c) hl h.to⟩

theorem tnew_ok {m : Int} (h : On W0 L w) : Calls Try.prog 20 #[.int .i64 m] w (Ret fun v w' => (1 ≤ m ∧ m ≤ 256 ∧ ∃ b, v = .tuple #[.pointer (some ⟨b, 0, none⟩), .int .i64 0] ∧ On W0 (SetP 92 b ⟨m, []⟩ :: L) w') ∨ (¬ (1 ≤ m ∧ m ≤ 256) ∧ v = .tuple #[.pointer none, .int .i64 1] ∧ On W0 L w')) := by
  refine enter Try.func20 rfl Try.ntmps20 rfl ?_
  refine W.seq ?_
  refine W.region ?_
  refine WL.val run_assign rfl rfl ?_
  refine WL.val run_assign rfl rfl ?_
  refine WL.nil ?_
  refine W.seq ?_
  refine W.seq ?_
  refine W.region ?_
  refine WL.val run_move rfl rfl ?_
  refine WL.dec (run_lss rfl rfl) rfl rfl (fun c5 => ?_) (fun c5 => ?_)
  · skip
    refine WL.val run_move rfl rfl ?_
    refine WL.skip rfl rfl ?_
    refine WL.skip rfl rfl ?_
    refine WL.val (run_pickT rfl) rfl rfl ?_
    refine WL.nil ?_
    refine W.condT rfl ?_
    refine W.seq ?_
    refine W.region ?_
    refine WL.val run_assign rfl rfl ?_
    refine WL.val run_assign rfl rfl ?_
    refine WL.nil ?_
    refine W.ret ?_
    refine bodyQ.r2 (v1 := .pointer _) (v2 := .int .i64 _) Try.results20 rfl rfl ?_
    -- path T
    exact .inr ⟨by omega, rfl, h⟩
  · skip
    refine WL.val run_move rfl rfl ?_
    refine WL.val run_move rfl rfl ?_
    refine WL.val (run_gtr rfl rfl) rfl rfl ?_
    refine WL.val (run_pickF rfl) rfl rfl ?_
    refine WL.nil ?_
    refine W.condIf rfl (fun c2 => ?_) (fun c2 => ?_)
    · skip
      refine W.seq ?_
      refine W.region ?_
      refine WL.val run_assign rfl rfl ?_
      refine WL.val run_assign rfl rfl ?_
      refine WL.nil ?_
      refine W.ret ?_
      refine bodyQ.r2 (v1 := .pointer _) (v2 := .int .i64 _) Try.results20 rfl rfl ?_
      -- path FT
      exact .inr ⟨by omega, rfl, h⟩
    · skip
      refine W.skip ?_
      refine W.seq ?_
      refine W.region ?_
      refine WL.val run_move rfl rfl ?_
      refine WL.val (run_buildS (pl := [(0, 1), (1, 1)]) (out := [.int .i64 _, .slice _ _ _]) Try.underlying92 Try.zeroValue92 (fun w => by kernel_rfl) rfl (⟨⟨_, _, rfl, rfl, by decide⟩, trivial⟩) rfl) rfl rfl ?_
      refine WL.eff (eff_box (v := .agg _) (l := [.int .i64 _, .slice _ _ _]) h rfl rfl) rfl rfl ?_
      rintro _ w ⟨b12, rfl, h⟩
      refine WL.val run_assign rfl rfl ?_
      refine WL.val run_assign rfl rfl ?_
      refine WL.nil ?_
      refine W.ret ?_
      refine bodyQ.r2 (v1 := .pointer _) (v2 := .int .i64 _) Try.results20 rfl rfl ?_
      -- path FF
      refine .inl ⟨by omega, by omega, b12, rfl, closeT (a := none) (c := 0) (Nat.zero_le _) ?_⟩
      show On W0 (blk b12 [.int .i64 m, .slice none 0 0] 92 :: Own 3 (.slice none 0 0) 0 [] :: L) w
      exact (h.ownEmpty 3 none).to

theorem tlen_ok {b : Nat} {s : TS} (h : On W0 (SetP 92 b s :: L) w) : Calls Try.prog 25 #[.pointer (some ⟨b, 0, none⟩)] w (Ret fun v w' => v = .int .i64 ((s.l.length : Nat) : Int) ∧ On W0 (SetP 92 b s :: L) w') := by
  refine enter Try.func25 rfl Try.ntmps25 rfl ?_
  have ob_ := openT h
  obtain ⟨a, c, hl, h⟩ := ob_
  refine W.seq ?_
  refine W.region ?_
  refine WL.val run_assign rfl rfl ?_
  refine WL.nil ?_
  refine W.seq ?_
  refine W.region ?_
  refine WL.val run_move rfl rfl ?_
  refine WL.val (run_nilCheck rfl) rfl rfl ?_
  refine WL.val (run_fieldAddr 1 Try.underlying92 rfl Try.sizeOf90 rfl rfl) rfl rfl ?_
  refine WL.val (run_load1 Try.isAgg90 rfl (h.cellB rfl)) rfl rfl ?_
  refine WL.val (run_lenSlice Try.underlying90 rfl) rfl rfl ?_
  refine WL.val run_assign rfl rfl ?_
  refine WL.nil ?_
  refine W.ret ?_
  refine bodyQ.r1 (v := .int .i64 _) Try.results25 rfl ?_
  -- path 
  exact ⟨rfl, closeT (a := a) (c := c) hl h⟩

theorem enabledO_ok {b i : Nat} {s : TS} {x : Tk} {a : Option Addr} {c : Nat} (hl : s.l.length ≤ 256) (hx : s.l[i]? = some x) (h : On W0 (blk b [.int .i64 s.most, .slice a s.l.length c] 92 :: Own 3 (.slice a s.l.length c) s.l.length (s.l.flatMap Tk.cells) :: L) w) : Calls Try.prog 54 #[.pointer (some ⟨b, 0, none⟩), .int .i64 (i : Int)] w (Ret fun v w' => v = .bool (enB s.l i x) ∧ On W0 (blk b [.int .i64 s.most, .slice a s.l.length c] 92 :: Own 3 (.slice a s.l.length c) s.l.length (s.l.flatMap Tk.cells) :: L) w') := by
  refine enter Try.func54 rfl Try.ntmps54 rfl ?_
  have hlt := (List.getElem?_eq_some_iff.1 hx).1
  have ob_ := Own.bounds h.p1
  obtain ⟨hbc, _⟩ := ob_
  have ob_ := Own.addr h.p1 (by omega)
  obtain ⟨ba, oa, rfl⟩ := ob_
  refine W.seq ?_
  refine W.region ?_
  refine WL.val run_assign rfl rfl ?_
  refine WL.nil ?_
  refine W.seq ?_
  refine W.region ?_
  refine WL.val run_move rfl rfl ?_
  refine WL.val (run_nilCheck rfl) rfl rfl ?_
  refine WL.val (run_fieldAddr 1 Try.underlying92 rfl Try.sizeOf90 rfl rfl) rfl rfl ?_
  refine WL.val (run_load1 Try.isAgg90 rfl (h.cellB rfl)) rfl rfl ?_
  refine WL.val run_move rfl rfl ?_
  refine WL.val (run_indexAddr Try.underlying90 Try.sizeOf96 rfl rfl (by omega) (by omega)) rfl rfl ?_
  refine WL.val (run_loadN Try.isAgg96 Try.sizeOf96 rfl rfl ((h.cellsO (v := .slice (some ⟨ba, oa, none⟩) s.l.length c)).elem (i := i) (vs := x.cells) (by omega) (drop_flatMap Tk.cells 3 Tk.cells_length s.l _ _ hx))) rfl rfl ?_
  refine WL.eff (eff_alloc h Try.zeroValue96 rfl) rfl rfl ?_
  rintro _ w ⟨b5, rfl, h⟩
  refine WL.eff (eff_storeN (vs := x.cells) h Try.sizeOf96 rfl rfl rfl rfl rfl (fun k _ _ => free0 k)) rfl rfl ?_
  rintro _ w h
  have h : On W0 (blk b5 x.cells 96 :: _) w := h
  refine WL.nil ?_
  refine W.seq ?_
  refine W.block ?_
  refine W.seq ?_
  refine W.region ?_
  refine WL.val (run_fieldAddr 2 Try.underlying96 rfl Try.sizeOf4 rfl rfl) rfl rfl ?_
  refine WL.val (run_load1 Try.isAgg4 rfl (h.cellB rfl)) rfl rfl ?_
  refine WL.val run_assign rfl rfl ?_
  refine WL.nil ?_
  refine W.condB rfl (fun c4 => ?_) (fun c4 => ?_)
  · skip
    refine W.seq ?_
    refine W.region ?_
    refine WL.val run_assign rfl rfl ?_
    refine WL.nil ?_
    refine W.ret ?_
    refine bodyQ.r1 (v := .bool _) Try.results54 rfl ?_
    -- path T
    exact ⟨by unfold enB; rw [if_pos c4], h.to⟩
  · skip
    refine W.seq ?_
    refine W.region ?_
    refine WL.val (run_fieldAddr 1 Try.underlying96 rfl Try.sizeOf3 rfl rfl) rfl rfl ?_
    refine WL.val (run_load1 Try.isAgg3 rfl (h.cellB rfl)) rfl rfl ?_
    refine WL.val (run_eql rfl rfl) rfl rfl ?_
    refine WL.val run_assign rfl rfl ?_
    refine WL.nil ?_
    refine W.condIf rfl (fun c8 => ?_) (fun c8 => ?_)
    · skip
      refine W.seq ?_
      refine W.region ?_
      refine WL.val run_assign rfl rfl ?_
      refine WL.nil ?_
      refine W.ret ?_
      refine bodyQ.r1 (v := .bool _) Try.results54 rfl ?_
      -- path FT
      exact ⟨by unfold enB; rw [if_neg (by rw [c4]; decide), if_pos c8], h.to⟩
    · skip
      refine W.seq ?_
      refine W.region ?_
      refine WL.val (run_fieldAddr 1 Try.underlying96 rfl Try.sizeOf3 rfl rfl) rfl rfl ?_
      refine WL.val (run_load1 Try.isAgg3 rfl (h.cellB rfl)) rfl rfl ?_
      refine WL.val (run_eql rfl rfl) rfl rfl ?_
      refine WL.val run_assign rfl rfl ?_
      refine WL.nil ?_
      refine W.condIf rfl (fun c12 => ?_) (fun c12 => ?_)
      · skip
        refine W.seq ?_
        refine W.region ?_
        refine WL.val run_move rfl rfl ?_
        refine WL.val (run_eql rfl rfl) rfl rfl ?_
        refine WL.val run_assign rfl rfl ?_
        refine WL.nil ?_
        refine W.ret ?_
        refine bodyQ.r1 (v := .bool _) Try.results54 rfl ?_
        -- path FFT
        refine ⟨?_, h.to⟩
        unfold enB
        rw [if_neg (by rw [c4]; decide), if_neg c8, if_pos c12]
        congr 1
        rw [decide_eq_decide]
        omega
      · skip
        refine W.skip ?_
        refine W.seq ?_
        have C : ∀ L' : List HProp, Gives L' (Cells 3 (.slice (some ⟨ba, oa, none⟩) s.l.length c) s.l.length (s.l.flatMap Tk.cells)) → Gives L' (Cells 3 (.slice (some ⟨ba, oa, none⟩) (s.l.take i).length c) (s.l.take i).length ((s.l.take i).flatMap Tk.cells)) := fun L' gg hh H => by
          have c1 := (gg hh H).front (k := i) (by omega)
          rw [take_flatMap Tk.cells 3 Tk.cells_length] at c1
          have e1 : (s.l.take i).length = i := by rw [List.length_take]; omega
          rw [e1]
          exact c1
        have e1 : (s.l.take i).length = i := by rw [List.length_take]; omega
        refine W.region ?_
        refine WL.val run_move rfl rfl ?_
        refine WL.val (run_nilCheck rfl) rfl rfl ?_
        refine WL.val (run_fieldAddr 1 Try.underlying92 rfl Try.sizeOf90 rfl rfl) rfl rfl ?_
        refine WL.val (run_load1 Try.isAgg90 rfl (h.cellB rfl)) rfl rfl ?_
        refine WL.val run_move rfl rfl ?_
        refine WL.val (run_cutH Try.underlying90 Try.sizeOf96 rfl rfl  (by omega)) rfl rfl ?_
        refine WL.eff (eff_call Try.call70 ((by have hc := contains_ok (a := some ⟨ba, oa, none⟩) (c := c) (l := s.l.take i) (f := 71) (caps := #[]) (p := fun u => decide (u.attr ≠ 0)) h (by omega) (C _ (Gives.ownO (v := .slice (some ⟨ba, oa, none⟩) s.l.length c))) Try.call71 (fun x w h => en1_ok h); rw [e1] at hc; exact hc))) rfl rfl ?_
        rintro _ w ⟨rfl, h⟩
        refine WL.val (run_not rfl) rfl rfl ?_
        refine WL.val run_assign rfl rfl ?_
        refine WL.nil ?_
        refine W.ret ?_
        refine bodyQ.r1 (v := .bool _) Try.results54 rfl ?_
        -- path FFF
        refine ⟨?_, h.to⟩
        unfold enB
        rw [if_neg (by rw [c4]; decide), if_neg c8, if_neg c12]


theorem enabled_ok {b i : Nat} {s : TS} {x : Tk} (hx : s.l[i]? = some x) (h : On W0 (SetP 92 b s :: L) w) : Calls Try.prog 54 #[.pointer (some ⟨b, 0, none⟩), .int .i64 (i : Int)] w (Ret fun v w' => v = .bool (enB s.l i x) ∧ On W0 (SetP 92 b s :: L) w') := by
  obtain ⟨a, c, hl, h⟩ := openT h
  refine (enabledO_ok hl hx h).mono ?_
  rintro e w' ⟨v, rfl, hv, h⟩
  exact ⟨_, rfl, hv, closeT (a := a) (c := c) hl h⟩

end Go.Proofs.Ytbfdkalcpacaaaa
