/-
  The contracts of reservations. Lines of walks printed by a program of the prover's.
-/
import Derived.Test.YtdpakoefdpmebaaResv2
import Derived.Test.YtdpakoefdpmebaaResvModel
namespace Go.Proofs.Ytdpakoefdpmebaa
open Go Go.Sl Go.Sl.RsM
set_option linter.unusedVariables false
set_option linter.unusedSimpArgs false
set_option maxHeartbeats 1000000
set_option maxRecDepth 8000
variable {W0 w : World} {L F : List HProp}

theorem preempt1_ok {b8 : Nat} {k other : Int} {cs : List Value} {e : Nat} {fr : Nat × Nat} (h : On W0 L w) [HasBlk L b8 (.int .u64 other :: cs) e fr] : Calls Try.prog 65 #[.int .u64 k, .pointer (some ⟨b8, 0, none⟩)] w (Ret fun v w' => v = .bool (decide (k = other)) ∧ On W0 L w') := by
  refine enter Try.func65 rfl Try.ntmps65 rfl ?_
  refine W.seq ?_
  refine W.region ?_
  refine WL.val run_assign rfl rfl ?_
  refine WL.nil ?_
  refine W.seq ?_
  refine W.region ?_
  refine WL.val run_move rfl rfl ?_
  refine WL.val (run_load1 Try.isAgg24 rfl (h.cellB rfl)) rfl rfl ?_
  refine WL.val (run_eql rfl rfl) rfl rfl ?_
  refine WL.val run_assign rfl rfl ?_
  refine WL.nil ?_
  refine W.ret ?_
  refine bodyQ.r1 (v := .bool _) Try.results65 rfl ?_
  -- path 
  exact ⟨rfl, h⟩

theorem preempt_ok {b : Nat} {t : Tb} {hh key other typ : Int} (hI : t.hold = -1 ∨ (0 ≤ t.hold ∧ t.hold < 8)) (h : On W0 (blk b t.cells 93 :: L) w) : Calls Try.prog 42 #[.pointer (some ⟨b, 0, none⟩), .int .i64 hh, .int .u64 key, .int .u64 other, .int .i64 typ] w (Ret fun v w' => (preOk t hh key other typ ∧ ∃ a, v = .tuple #[rep 0 0 0, .slice a (preL t hh other).length (preL t hh other).length] ∧ On W0 (Own 2 (.slice a (preL t hh other).length (preL t hh other).length) (preL t hh other).length (notesV 10757 ((preL t hh other))) :: blk b (preT t hh other typ).cells 93 :: L) w') ∨ (¬ preOk t hh key other typ ∧ ∃ s k c, v = .tuple #[rep s k c, .slice none 0 0] ∧ On W0 (blk b t.cells 93 :: L) w')) := by
  refine enter Try.func42 rfl Try.ntmps42 rfl ?_
  refine W.seq ?_
  refine W.region ?_
  refine WL.eff (eff_box (v := .int .u64 _) (l := [.int .u64 _]) h rfl rfl) rfl rfl ?_
  rintro _ w ⟨b8, rfl, h⟩
  refine WL.eff (eff_alloc h Try.zeroValue31 rfl) rfl rfl ?_
  rintro _ w ⟨b10, rfl, h⟩
  refine WL.val run_assign rfl rfl ?_
  refine WL.nil ?_
  refine W.seq ?_
  refine W.seq ?_
  refine W.region ?_
  refine WL.val run_move rfl rfl ?_
  refine WL.val run_move rfl rfl ?_
  refine WL.val run_move rfl rfl ?_
  refine WL.eff (eff_call Try.call61 (may_ok (h.fetch (blk b t.cells 93)))) rfl rfl ?_
  rintro _ w ⟨hv, h⟩
  rcases hv with ⟨hok, rfl⟩ | ⟨hno, s, k, c, rfl, hs24⟩
  · skip
    refine WL.val run_move rfl rfl ?_
    refine WL.val (run_extract rfl rfl) rfl rfl ?_
    refine WL.val (run_extract rfl rfl) rfl rfl ?_
    refine WL.eff (eff_alloc h Try.zeroValue31 rfl) rfl rfl ?_
    rintro _ w ⟨b12, rfl, h⟩
    refine WL.eff (eff_storeN (vs := [.int .i64 _, .int .i64 _, .int .i64 _, .slice _ _ _, .int .i64 _]) h Try.sizeOf31 rfl rfl rfl rfl rfl (fun k _ _ => free0 k)) rfl rfl ?_
    rintro _ w h
    try simp only [splice, List.take_zero, List.take_succ_cons, List.take_nil, List.drop_succ_cons, List.drop_zero, List.drop_nil, List.nil_append, List.cons_append, List.append_nil, List.length_cons, List.length_nil, Nat.zero_add, Nat.reduceAdd] at h
    refine WL.val run_assign rfl rfl ?_
    refine WL.nil ?_
    refine W.seq ?_
    refine W.region ?_
    refine WL.val run_move rfl rfl ?_
    refine WL.val (run_not rfl) rfl rfl ?_
    refine WL.nil ?_
    refine W.condF rfl ?_
    refine W.skip ?_
    refine W.seq ?_
    refine W.seq ?_
    refine W.region ?_
    refine WL.val (run_load1 Try.isAgg24 rfl (h.cellB rfl)) rfl rfl ?_
    refine WL.val (run_eql rfl rfl) rfl rfl ?_
    refine WL.nil ?_
    refine W.condIf rfl (fun c8 => ?_) (fun c8 => ?_)
    · skip
      refine W.seq ?_
      refine W.region ?_
      refine WL.eff (eff_call Try.call19 (wrong_ok h)) rfl rfl ?_
      rintro _ w ⟨rfl, h⟩
      refine WL.eff (eff_storeN (vs := [.int .i64 _, .int .i64 _, .int .i64 _, .slice _ _ _, .int .i64 _]) h Try.sizeOf31 rfl rfl rfl rfl rfl (fun k _ _ => free0 k)) rfl rfl ?_
      rintro _ w h
      try simp only [splice, List.take_zero, List.take_succ_cons, List.take_nil, List.drop_succ_cons, List.drop_zero, List.drop_nil, List.nil_append, List.cons_append, List.append_nil, List.length_cons, List.length_nil, Nat.zero_add, Nat.reduceAdd] at h
      refine WL.val run_assign rfl rfl ?_
      refine WL.nil ?_
      refine W.ret ?_
      refine bodyQ.rctB (vs := [.int .i64 _, .int .i64 _, .int .i64 _, .slice _ _ _, .int .i64 _]) (v2 := .slice _ _ _) h Try.results42 Try.isAgg31 Try.sizeOf31 rfl rfl rfl rfl ?_
      -- path TT
      exact .inr ⟨fun hh => hh.2.1 c8, 2, 5, 9728, rfl, h.to⟩
    · skip
      refine W.skip ?_
      refine W.seq ?_
      refine W.region ?_
      refine WL.val run_move rfl rfl ?_
      refine WL.val run_move rfl rfl ?_
      refine WL.val run_makeFunc rfl rfl ?_
      refine WL.eff (eff_call Try.call63 (others_ok (t := t) (b := b) (hh := hh) (code := 10757) (f := 65) (caps := #[.pointer (some ⟨b8, 0, none⟩)]) (p := fun k => decide (k = other)) (h.fetch (blk b t.cells 93)) Try.call65 (fun k A w h => preempt1_ok h))) rfl rfl ?_
      rintro _ w ⟨a, hv, h⟩
      have hv2 : _ = Value.slice a (preL t hh other).length (preL t hh other).length := hv
      subst hv2
      have h : On W0 (Own 2 (.slice a (preL t hh other).length (preL t hh other).length) (preL t hh other).length (notesV 10757 (preL t hh other)) :: _) w := h
      have hlen : (preL t hh other).length ≤ 8 := hostsN_len ..
      refine WL.val run_assign rfl rfl ?_
      refine WL.nil ?_
      refine W.seq ?_
      refine W.seq ?_
      refine W.region ?_
      refine WL.val run_move rfl rfl ?_
      refine WL.val (run_lenSlice Try.underlying105 rfl) rfl rfl ?_
      refine WL.val (run_eql rfl rfl) rfl rfl ?_
      refine WL.nil ?_
      refine W.condIf rfl (fun c14 => ?_) (fun c14 => ?_)
      · skip
        refine W.seq ?_
        refine W.region ?_
        refine WL.eff (eff_call Try.call58 (conflict_ok h)) rfl rfl ?_
        rintro _ w ⟨rfl, h⟩
        refine WL.eff (eff_storeN (vs := [.int .i64 _, .int .i64 _, .int .i64 _, .slice _ _ _, .int .i64 _]) h Try.sizeOf31 rfl rfl rfl rfl rfl (fun k _ _ => free0 k)) rfl rfl ?_
        rintro _ w h
        try simp only [splice, List.take_zero, List.take_succ_cons, List.take_nil, List.drop_succ_cons, List.drop_zero, List.drop_nil, List.nil_append, List.cons_append, List.append_nil, List.length_cons, List.length_nil, Nat.zero_add, Nat.reduceAdd] at h
        refine WL.val run_assign rfl rfl ?_
        refine WL.nil ?_
        refine W.ret ?_
        refine bodyQ.rctB (vs := [.int .i64 _, .int .i64 _, .int .i64 _, .slice _ _ _, .int .i64 _]) (v2 := .slice _ _ _) h Try.results42 Try.isAgg31 Try.sizeOf31 rfl rfl rfl rfl ?_
        -- path TFT
        exact .inr ⟨fun hh => hh.2.2.1 (List.eq_nil_of_length_eq_zero (by omega)), 24, 0, 0, rfl, h.to⟩
      · skip
        refine W.skip ?_
        refine W.seq ?_
        refine W.seq ?_
        refine W.draw Try.follows h (fun w h => ?_)
        refine WT.pure 0 rfl (by kernel_rfl) (fun w' => run_move) rfl rfl ?_
        refine WT.pure 1 rfl (by kernel_rfl) (fun w' => (run_nilCheck rfl)) rfl rfl ?_
        refine WT.pure 2 rfl (by kernel_rfl) (fun w' => (run_fieldAddr 8 Try.underlying93 rfl Try.sizeOf3 rfl rfl)) rfl rfl ?_
        refine WT.load1 3 rfl (by kernel_rfl) Try.isAgg3 rfl (h.cellB rfl) rfl rfl ?_
        refine WT.dec 4 rfl (by kernel_rfl) (fun w' => (run_neq rfl rfl)) rfl rfl (fun c42 => ?_) (fun c42 => ?_)
        · skip
          refine WT.pure 5 rfl (by kernel_rfl) (fun w' => run_move) rfl rfl ?_
          refine WT.pure 6 rfl (by kernel_rfl) (fun w' => run_move) rfl rfl ?_
          refine WT.pure 7 rfl (by kernel_rfl) (fun w' => (run_nilCheck rfl)) rfl rfl ?_
          refine WT.pure 8 rfl (by kernel_rfl) (fun w' => (run_fieldAddr 8 Try.underlying93 rfl Try.sizeOf3 rfl rfl)) rfl rfl ?_
          refine WT.load1 9 rfl (by kernel_rfl) Try.isAgg3 rfl (h.cellB rfl) rfl rfl ?_
          refine WT.pure 10 rfl (by kernel_rfl) (fun w' => run_move) rfl rfl ?_
          refine WT.dec 11 rfl (by kernel_rfl) (fun w' => (run_neq rfl rfl)) rfl rfl (fun c49 => ?_) (fun c49 => ?_)
          · skip
            refine WT.pure 12 rfl (by kernel_rfl) (fun w' => (run_pickT rfl)) rfl rfl ?_
            refine WT.pure 13 rfl (by kernel_rfl) (fun w' => run_move) rfl rfl ?_
            refine WT.pure 14 rfl (by kernel_rfl) (fun w' => run_move) rfl rfl ?_
            refine WT.pure 15 rfl (by kernel_rfl) (fun w' => run_move) rfl rfl ?_
            refine WT.pure 16 rfl (by kernel_rfl) (fun w' => (run_nilCheck rfl)) rfl rfl ?_
            refine WT.pure 17 rfl (by kernel_rfl) (fun w' => (run_fieldAddr 8 Try.underlying93 rfl Try.sizeOf3 rfl rfl)) rfl rfl ?_
            refine WT.load1 18 rfl (by kernel_rfl) Try.isAgg3 rfl (h.cellB rfl) rfl rfl ?_
            refine WT.pure 19 rfl (by kernel_rfl) (fun w' => (run_nilCheck rfl)) rfl rfl ?_
            refine WT.pure 20 rfl (by kernel_rfl) (fun w' => (run_fieldAddr 0 Try.underlying93 rfl Try.sizeOf90 rfl rfl)) rfl rfl ?_
            refine WT.pure 21 rfl (by kernel_rfl) (fun w' => (run_indexAddrArr Try.underlying90 Try.sizeOf24 rfl rfl (by omega) (by omega))) rfl rfl ?_
            refine WT.load1 22 rfl (by kernel_rfl) Try.isAgg24 rfl (h.cellB (cells_atI (by omega) (by omega))) rfl rfl ?_
            refine WT.load1 23 rfl (by kernel_rfl) Try.isAgg24 rfl (h.cellB rfl) rfl rfl ?_
            refine WT.dec 24 rfl (by kernel_rfl) (fun w' => (run_eql rfl rfl)) rfl rfl (fun c62 => ?_) (fun c62 => ?_)
            · skip
              refine WT.pure 25 rfl (by kernel_rfl) (fun w' => (run_pickT rfl)) rfl rfl ?_
              refine WT.done (by kernel_rfl) ?_
              refine W.condT rfl ?_
              refine W.seq ?_
              refine W.seq ?_
              have htk : takesP t hh other := ⟨c42, c49, c62⟩
              refine W.region ?_
              refine WL.val run_move rfl rfl ?_
              refine WL.eff (eff_call Try.call62 (typed_ok h)) rfl rfl ?_
              rintro _ w ⟨hv, h⟩
              have hcs := Bool.eq_false_or_eq_true (typedB typ)
              rcases hcs with hty | hty <;> (rw [hty] at hv; subst hv)
              · skip
                refine WL.val (run_not rfl) rfl rfl ?_
                refine WL.nil ?_
                refine W.condF rfl ?_
                refine W.skip ?_
                refine W.region ?_
                refine WL.val run_move rfl rfl ?_
                refine WL.val run_move rfl rfl ?_
                refine WL.val run_move rfl rfl ?_
                refine WL.val run_move rfl rfl ?_
                refine WL.val (run_nilCheck rfl) rfl rfl ?_
                refine WL.val (run_fieldAddr 8 Try.underlying93 rfl Try.sizeOf3 rfl rfl) rfl rfl ?_
                refine WL.eff (eff_store (v := .int .i64 _) h Try.sizeOf3 rfl rfl rfl rfl rfl) rfl rfl ?_
                rintro _ w h
                try simp only [Nat.zero_add, Nat.add_zero, List.set_cons_zero, List.set_cons_succ] at h
                refine WL.val (run_nilCheck rfl) rfl rfl ?_
                refine WL.val (run_fieldAddr 9 Try.underlying93 rfl Try.sizeOf3 rfl rfl) rfl rfl ?_
                refine WL.eff (eff_store (v := .int .i64 _) h Try.sizeOf3 rfl rfl rfl rfl rfl) rfl rfl ?_
                rintro _ w h
                try simp only [Nat.zero_add, Nat.add_zero, List.set_cons_zero, List.set_cons_succ] at h
                refine WL.nil ?_
                refine W.seq ?_
                have h := h.fetch (blk b ((t.cells.set (0 + 8) (.int .i64 hh)).set (0 + 9) (.int .i64 typ)) 93)
                have h : On W0 (blk b (t.take hh typ).cells 93 :: _) w := h
                refine W.region ?_
                refine WL.val run_move rfl rfl ?_
                refine WL.val (run_nilCheck rfl) rfl rfl ?_
                refine WL.val (run_fieldAddr 10 Try.underlying93 rfl Try.sizeOf91 rfl rfl) rfl rfl ?_
                refine WL.val (run_load1 Try.isAgg91 rfl (h.cellB rfl)) rfl rfl ?_
                refine WL.val (run_addW rfl rfl) rfl rfl ?_
                refine WL.val (run_nilCheck rfl) rfl rfl ?_
                refine WL.val (run_fieldAddr 10 Try.underlying93 rfl Try.sizeOf91 rfl rfl) rfl rfl ?_
                refine WL.eff (eff_store (v := .int .u32 _) h Try.sizeOf91 rfl rfl rfl rfl rfl) rfl rfl ?_
                rintro _ w h
                try simp only [Nat.zero_add, Nat.add_zero, List.set_cons_zero, List.set_cons_succ] at h
                refine WL.nil ?_
                refine W.seq ?_
                refine W.seq ?_
                have et0 : preT0 t hh other typ = (t.take hh typ).inc := by unfold preT0; rw [if_pos htk]
                have h := h.fetch (blk b ((t.take hh typ).cells.set (0 + 10) (.int .u32 (IntKind.u32.wrap ((t.take hh typ).gen + 1)))) 93)
                have h : On W0 (blk b (t.take hh typ).inc.cells 93 :: _) w := h
                rw [← et0, ← zer_nil (preT0 t hh other typ)] at h
                have hok2 : preOk t hh key other typ := ⟨hok, c8, (fun e => c14 (by rw [e]; rfl)), fun _ => hty⟩
                have h : On W0 (Own 2 (.slice a (preL t hh other).length (preL t hh other).length) (preL t hh other).length (notesV 10757 (preL t hh other)) :: blk b (zer (preT0 t hh other typ) []).cells 93 :: blk b10 [.int .i64 0, .int .i64 0, .int .i64 0, .slice none 0 0, .int .i64 0] 31 :: L) w := h.to
                refine W.region ?_
                refine WL.val run_move rfl rfl ?_
                refine WL.val (run_lenSlice Try.underlying105 rfl) rfl rfl ?_
                refine WL.val run_move rfl rfl ?_
                refine WL.nil ?_
                refine W.block ?_
                refine W.loop (fun (q : Nat) env w => ∃ j, env = mkE j [(0, .pointer (some ⟨b, 0, none⟩)), (1, .int .i64 hh), (10, .pointer (some ⟨b10, 0, none⟩)), (14, .slice a (preL t hh other).length (preL t hh other).length), (83, .slice a (preL t hh other).length (preL t hh other).length), (84, .int .i64 (((preL t hh other).length : Nat) : Int)), (85, .int .i64 (q : Int))] ∧ q ≤ (preL t hh other).length ∧ On W0 (Own 2 (.slice a (preL t hh other).length (preL t hh other).length) (preL t hh other).length (notesV 10757 (preL t hh other)) :: blk b (zer (preT0 t hh other typ) ((preL t hh other).take q)).cells 93 :: blk b10 [.int .i64 0, .int .i64 0, .int .i64 0, .slice none 0 0, .int .i64 0] 31 :: L) w) (fun q => (preL t hh other).length - q) (0) ?_ ?_
                · exact ⟨_, mkE_of ⟨rfl, rfl, rfl, rfl, rfl, rfl, rfl, trivial⟩, Nat.zero_le _, h⟩
                · rintro q env w ⟨j, rfl, hq, h⟩
                  refine W.seq ?_
                  refine W.region ?_
                  refine WL.val (run_lss rfl rfl) rfl rfl ?_
                  refine WL.nil ?_
                  refine W.seq ?_
                  refine W.condIf rfl (fun c32 => ?_) (fun c32 => ?_)
                  · skip
                    refine W.skip ?_
                    refine W.seq ?_
                    refine W.block ?_
                    refine W.seq ?_
                    have hql : q < (preL t hh other).length := by omega
                    have ob_ : ∃ i, (preL t hh other)[q]? = some i := ⟨(preL t hh other)[q], by simp⟩
                    obtain ⟨i, hi⟩ := ob_
                    have hi8 : i < 8 := (hostsN_mem.1 (List.mem_of_getElem? hi)).1
                    have ob_ := Own.addr h (by omega)
                    obtain ⟨bn, on, rfl⟩ := ob_
                    refine W.region ?_
                    refine WL.val (run_indexAddr Try.underlying105 Try.sizeOf127 rfl rfl (by omega) (by omega)) rfl rfl ?_
                    refine WL.val (run_loadN Try.isAgg127 Try.sizeOf127 rfl rfl ((h.cellsO (v := .slice (some ⟨bn, on, none⟩) (preL t hh other).length (preL t hh other).length)).elem (i := q) (vs := noteV 10757 i) hql (drop_flatMap (noteV 10757) 2 (noteV_length 10757) (preL t hh other) _ _ hi))) rfl rfl ?_
                    refine WL.eff (eff_alloc h Try.zeroValue127 rfl) rfl rfl ?_
                    rintro _ w ⟨b16, rfl, h⟩
                    refine WL.eff (eff_storeN (vs := [.int .i64 _, .int .i64 _]) h Try.sizeOf127 rfl rfl rfl rfl rfl (fun k _ _ => free0 k)) rfl rfl ?_
                    rintro _ w h
                    try simp only [splice, List.take_zero, List.take_succ_cons, List.take_nil, List.drop_succ_cons, List.drop_zero, List.drop_nil, List.nil_append, List.cons_append, List.append_nil, List.length_cons, List.length_nil, Nat.zero_add, Nat.reduceAdd] at h
                    refine WL.nil ?_
                    refine W.draw Try.follows h (fun w h => ?_)
                    refine WT.pure 0 rfl (by kernel_rfl) (fun w' => run_move) rfl rfl ?_
                    refine WT.pure 1 rfl (by kernel_rfl) (fun w' => (run_fieldAddr 0 Try.underlying127 rfl Try.sizeOf3 rfl rfl)) rfl rfl ?_
                    refine WT.load1 2 rfl (by kernel_rfl) Try.isAgg3 rfl (h.cellB rfl) rfl rfl ?_
                    refine WT.pure 3 rfl (by kernel_rfl) (fun w' => (run_nilCheck rfl)) rfl rfl ?_
                    refine WT.pure 4 rfl (by kernel_rfl) (fun w' => (run_fieldAddr 0 Try.underlying93 rfl Try.sizeOf90 rfl rfl)) rfl rfl ?_
                    refine WT.pure 5 rfl (by kernel_rfl) (fun w' => (run_indexAddrArr Try.underlying90 Try.sizeOf24 rfl rfl (by omega) (by omega))) rfl rfl ?_
                    refine WT.eff 6 [false] rfl (by kernel_rfl) (by kernel_rfl) (eff_store (v := .int .u64 _) h Try.sizeOf24 rfl rfl rfl (cells_lt hi8) (free0 _)) rfl rfl ?_
                    rintro _ w h
                    rw [cells_set hi8, ← zer_snoc, ← RsM.take_snoc hi] at h
                    refine ⟨trivial, ?_⟩
                    refine WT.done (by kernel_rfl) ?_
                    refine W.region ?_
                    refine WL.val (run_incN rfl rfl (by omega)) rfl rfl ?_
                    refine WL.val run_move rfl rfl ?_
                    refine WL.nil ?_
                    -- round, path TFFTTTTLT
                    exact ⟨q + 1, ⟨_, mkE_of ⟨rfl, rfl, rfl, rfl, rfl, rfl, rfl, trivial⟩, by omega, h.to⟩, by show (preL t hh other).length - (q + 1) < (preL t hh other).length - q; omega⟩
                  · skip
                    refine W.exit ?_
                    refine W.seq ?_
                    refine W.region ?_
                    refine WL.eff (eff_call Try.call60 (good_ok h)) rfl rfl ?_
                    rintro _ w ⟨rfl, h⟩
                    refine WL.val run_move rfl rfl ?_
                    refine WL.eff (eff_storeN (vs := [.int .i64 _, .int .i64 _, .int .i64 _, .slice _ _ _, .int .i64 _]) h Try.sizeOf31 rfl rfl rfl rfl rfl (fun k _ _ => free0 k)) rfl rfl ?_
                    rintro _ w h
                    try simp only [splice, List.take_zero, List.take_succ_cons, List.take_nil, List.drop_succ_cons, List.drop_zero, List.drop_nil, List.nil_append, List.cons_append, List.append_nil, List.length_cons, List.length_nil, Nat.zero_add, Nat.reduceAdd] at h
                    refine WL.val run_assign rfl rfl ?_
                    refine WL.nil ?_
                    refine W.ret ?_
                    refine bodyQ.rctB (vs := [.int .i64 _, .int .i64 _, .int .i64 _, .slice _ _ _, .int .i64 _]) (v2 := .slice _ _ _) h Try.results42 Try.isAgg31 Try.sizeOf31 rfl rfl rfl rfl ?_
                    -- path TFFTTTTLF
                    have ob_ : q = (preL t hh other).length := by omega
                    obtain rfl := ob_
                    rw [List.take_length] at h
                    have h : On W0 (Own 2 (.slice a (preL t hh other).length (preL t hh other).length) (preL t hh other).length (notesV 10757 (preL t hh other)) :: blk b (preT t hh other typ).cells 93 :: _) w := h
                    exact .inl ⟨hok2, a, rfl, h.to⟩
              · skip
                refine WL.val (run_not rfl) rfl rfl ?_
                refine WL.nil ?_
                refine W.condT rfl ?_
                refine W.seq ?_
                refine W.region ?_
                refine WL.eff (eff_call Try.call57 (field_ok h)) rfl rfl ?_
                rintro _ w ⟨rfl, h⟩
                refine WL.eff (eff_storeN (vs := [.int .i64 _, .int .i64 _, .int .i64 _, .slice _ _ _, .int .i64 _]) h Try.sizeOf31 rfl rfl rfl rfl rfl (fun k _ _ => free0 k)) rfl rfl ?_
                rintro _ w h
                try simp only [splice, List.take_zero, List.take_succ_cons, List.take_nil, List.drop_succ_cons, List.drop_zero, List.drop_nil, List.nil_append, List.cons_append, List.append_nil, List.length_cons, List.length_nil, Nat.zero_add, Nat.reduceAdd] at h
                refine WL.val run_assign rfl rfl ?_
                refine WL.nil ?_
                refine W.ret ?_
                refine bodyQ.rctB (vs := [.int .i64 _, .int .i64 _, .int .i64 _, .slice _ _ _, .int .i64 _]) (v2 := .slice _ _ _) h Try.results42 Try.isAgg31 Try.sizeOf31 rfl rfl rfl rfl ?_
                -- path TFFTTTF
                exact .inr ⟨fun hh => (by have := hh.2.2.2 htk; rw [hty] at this; cases this), 2, 5, 9216, rfl, h.to⟩
            · skip
              refine WT.pure 25 rfl (by kernel_rfl) (fun w' => (run_pickT rfl)) rfl rfl ?_
              refine WT.done (by kernel_rfl) ?_
              refine W.condF rfl ?_
              refine W.skip ?_
              refine W.seq ?_
              have htk : ¬ takesP t hh other := fun hh => c62 hh.2.2
              refine W.region ?_
              refine WL.val run_move rfl rfl ?_
              refine WL.val (run_nilCheck rfl) rfl rfl ?_
              refine WL.val (run_fieldAddr 10 Try.underlying93 rfl Try.sizeOf91 rfl rfl) rfl rfl ?_
              refine WL.val (run_load1 Try.isAgg91 rfl (h.cellB rfl)) rfl rfl ?_
              refine WL.val (run_addW rfl rfl) rfl rfl ?_
              refine WL.val (run_nilCheck rfl) rfl rfl ?_
              refine WL.val (run_fieldAddr 10 Try.underlying93 rfl Try.sizeOf91 rfl rfl) rfl rfl ?_
              refine WL.eff (eff_store (v := .int .u32 _) h Try.sizeOf91 rfl rfl rfl rfl rfl) rfl rfl ?_
              rintro _ w h
              try simp only [Nat.zero_add, Nat.add_zero, List.set_cons_zero, List.set_cons_succ] at h
              refine WL.nil ?_
              refine W.seq ?_
              refine W.seq ?_
              have et0 : preT0 t hh other typ = t.inc := by unfold preT0; rw [if_neg htk]
              have h := h.fetch (blk b (t.cells.set (0 + 10) (.int .u32 (IntKind.u32.wrap (t.gen + 1)))) 93)
              have h : On W0 (blk b t.inc.cells 93 :: _) w := h
              rw [← et0, ← zer_nil (preT0 t hh other typ)] at h
              have hok2 : preOk t hh key other typ := ⟨hok, c8, (fun e => c14 (by rw [e]; rfl)), fun hh => (htk hh).elim⟩
              have h : On W0 (Own 2 (.slice a (preL t hh other).length (preL t hh other).length) (preL t hh other).length (notesV 10757 (preL t hh other)) :: blk b (zer (preT0 t hh other typ) []).cells 93 :: blk b10 [.int .i64 0, .int .i64 0, .int .i64 0, .slice none 0 0, .int .i64 0] 31 :: L) w := h.to
              refine W.region ?_
              refine WL.val run_move rfl rfl ?_
              refine WL.val (run_lenSlice Try.underlying105 rfl) rfl rfl ?_
              refine WL.val run_move rfl rfl ?_
              refine WL.nil ?_
              refine W.block ?_
              refine W.loop (fun (q : Nat) env w => ∃ j, env = mkE j [(0, .pointer (some ⟨b, 0, none⟩)), (1, .int .i64 hh), (10, .pointer (some ⟨b10, 0, none⟩)), (14, .slice a (preL t hh other).length (preL t hh other).length), (83, .slice a (preL t hh other).length (preL t hh other).length), (84, .int .i64 (((preL t hh other).length : Nat) : Int)), (85, .int .i64 (q : Int))] ∧ q ≤ (preL t hh other).length ∧ On W0 (Own 2 (.slice a (preL t hh other).length (preL t hh other).length) (preL t hh other).length (notesV 10757 (preL t hh other)) :: blk b (zer (preT0 t hh other typ) ((preL t hh other).take q)).cells 93 :: blk b10 [.int .i64 0, .int .i64 0, .int .i64 0, .slice none 0 0, .int .i64 0] 31 :: L) w) (fun q => (preL t hh other).length - q) (0) ?_ ?_
              · exact ⟨_, mkE_of ⟨rfl, rfl, rfl, rfl, rfl, rfl, rfl, trivial⟩, Nat.zero_le _, h⟩
              · rintro q env w ⟨j, rfl, hq, h⟩
                refine W.seq ?_
                refine W.region ?_
                refine WL.val (run_lss rfl rfl) rfl rfl ?_
                refine WL.nil ?_
                refine W.seq ?_
                refine W.condIf rfl (fun c32 => ?_) (fun c32 => ?_)
                · skip
                  refine W.skip ?_
                  refine W.seq ?_
                  refine W.block ?_
                  refine W.seq ?_
                  have hql : q < (preL t hh other).length := by omega
                  have ob_ : ∃ i, (preL t hh other)[q]? = some i := ⟨(preL t hh other)[q], by simp⟩
                  obtain ⟨i, hi⟩ := ob_
                  have hi8 : i < 8 := (hostsN_mem.1 (List.mem_of_getElem? hi)).1
                  have ob_ := Own.addr h (by omega)
                  obtain ⟨bn, on, rfl⟩ := ob_
                  refine W.region ?_
                  refine WL.val (run_indexAddr Try.underlying105 Try.sizeOf127 rfl rfl (by omega) (by omega)) rfl rfl ?_
                  refine WL.val (run_loadN Try.isAgg127 Try.sizeOf127 rfl rfl ((h.cellsO (v := .slice (some ⟨bn, on, none⟩) (preL t hh other).length (preL t hh other).length)).elem (i := q) (vs := noteV 10757 i) hql (drop_flatMap (noteV 10757) 2 (noteV_length 10757) (preL t hh other) _ _ hi))) rfl rfl ?_
                  refine WL.eff (eff_alloc h Try.zeroValue127 rfl) rfl rfl ?_
                  rintro _ w ⟨b16, rfl, h⟩
                  refine WL.eff (eff_storeN (vs := [.int .i64 _, .int .i64 _]) h Try.sizeOf127 rfl rfl rfl rfl rfl (fun k _ _ => free0 k)) rfl rfl ?_
                  rintro _ w h
                  try simp only [splice, List.take_zero, List.take_succ_cons, List.take_nil, List.drop_succ_cons, List.drop_zero, List.drop_nil, List.nil_append, List.cons_append, List.append_nil, List.length_cons, List.length_nil, Nat.zero_add, Nat.reduceAdd] at h
                  refine WL.nil ?_
                  refine W.draw Try.follows h (fun w h => ?_)
                  refine WT.pure 0 rfl (by kernel_rfl) (fun w' => run_move) rfl rfl ?_
                  refine WT.pure 1 rfl (by kernel_rfl) (fun w' => (run_fieldAddr 0 Try.underlying127 rfl Try.sizeOf3 rfl rfl)) rfl rfl ?_
                  refine WT.load1 2 rfl (by kernel_rfl) Try.isAgg3 rfl (h.cellB rfl) rfl rfl ?_
                  refine WT.pure 3 rfl (by kernel_rfl) (fun w' => (run_nilCheck rfl)) rfl rfl ?_
                  refine WT.pure 4 rfl (by kernel_rfl) (fun w' => (run_fieldAddr 0 Try.underlying93 rfl Try.sizeOf90 rfl rfl)) rfl rfl ?_
                  refine WT.pure 5 rfl (by kernel_rfl) (fun w' => (run_indexAddrArr Try.underlying90 Try.sizeOf24 rfl rfl (by omega) (by omega))) rfl rfl ?_
                  refine WT.eff 6 [false] rfl (by kernel_rfl) (by kernel_rfl) (eff_store (v := .int .u64 _) h Try.sizeOf24 rfl rfl rfl (cells_lt hi8) (free0 _)) rfl rfl ?_
                  rintro _ w h
                  rw [cells_set hi8, ← zer_snoc, ← RsM.take_snoc hi] at h
                  refine ⟨trivial, ?_⟩
                  refine WT.done (by kernel_rfl) ?_
                  refine W.region ?_
                  refine WL.val (run_incN rfl rfl (by omega)) rfl rfl ?_
                  refine WL.val run_move rfl rfl ?_
                  refine WL.nil ?_
                  -- round, path TFFTTFLT
                  exact ⟨q + 1, ⟨_, mkE_of ⟨rfl, rfl, rfl, rfl, rfl, rfl, rfl, trivial⟩, by omega, h.to⟩, by show (preL t hh other).length - (q + 1) < (preL t hh other).length - q; omega⟩
                · skip
                  refine W.exit ?_
                  refine W.seq ?_
                  refine W.region ?_
                  refine WL.eff (eff_call Try.call60 (good_ok h)) rfl rfl ?_
                  rintro _ w ⟨rfl, h⟩
                  refine WL.val run_move rfl rfl ?_
                  refine WL.eff (eff_storeN (vs := [.int .i64 _, .int .i64 _, .int .i64 _, .slice _ _ _, .int .i64 _]) h Try.sizeOf31 rfl rfl rfl rfl rfl (fun k _ _ => free0 k)) rfl rfl ?_
                  rintro _ w h
                  try simp only [splice, List.take_zero, List.take_succ_cons, List.take_nil, List.drop_succ_cons, List.drop_zero, List.drop_nil, List.nil_append, List.cons_append, List.append_nil, List.length_cons, List.length_nil, Nat.zero_add, Nat.reduceAdd] at h
                  refine WL.val run_assign rfl rfl ?_
                  refine WL.nil ?_
                  refine W.ret ?_
                  refine bodyQ.rctB (vs := [.int .i64 _, .int .i64 _, .int .i64 _, .slice _ _ _, .int .i64 _]) (v2 := .slice _ _ _) h Try.results42 Try.isAgg31 Try.sizeOf31 rfl rfl rfl rfl ?_
                  -- path TFFTTFLF
                  have ob_ : q = (preL t hh other).length := by omega
                  obtain rfl := ob_
                  rw [List.take_length] at h
                  have h : On W0 (Own 2 (.slice a (preL t hh other).length (preL t hh other).length) (preL t hh other).length (notesV 10757 (preL t hh other)) :: blk b (preT t hh other typ).cells 93 :: _) w := h
                  exact .inl ⟨hok2, a, rfl, h.to⟩
          · skip
            refine WT.pure 12 rfl (by kernel_rfl) (fun w' => (run_pickT rfl)) rfl rfl ?_
            refine WT.pure 13 rfl (by kernel_rfl) (fun w' => run_move) rfl rfl ?_
            refine WT.skip 14 rfl (by kernel_rfl) rfl rfl ?_
            refine WT.skip 15 rfl (by kernel_rfl) rfl rfl ?_
            refine WT.skip 16 rfl (by kernel_rfl) rfl rfl ?_
            refine WT.skip 17 rfl (by kernel_rfl) rfl rfl ?_
            refine WT.skip 18 rfl (by kernel_rfl) rfl rfl ?_
            refine WT.skip 19 rfl (by kernel_rfl) rfl rfl ?_
            refine WT.skip 20 rfl (by kernel_rfl) rfl rfl ?_
            refine WT.skip 21 rfl (by kernel_rfl) rfl rfl ?_
            refine WT.skip 22 rfl (by kernel_rfl) rfl rfl ?_
            refine WT.skip 23 rfl (by kernel_rfl) rfl rfl ?_
            refine WT.skip 24 rfl (by kernel_rfl) rfl rfl ?_
            refine WT.pure 25 rfl (by kernel_rfl) (fun w' => (run_pickF rfl)) rfl rfl ?_
            refine WT.done (by kernel_rfl) ?_
            refine W.condF rfl ?_
            refine W.skip ?_
            refine W.seq ?_
            have htk : ¬ takesP t hh other := fun hh => c49 hh.2.1
            refine W.region ?_
            refine WL.val run_move rfl rfl ?_
            refine WL.val (run_nilCheck rfl) rfl rfl ?_
            refine WL.val (run_fieldAddr 10 Try.underlying93 rfl Try.sizeOf91 rfl rfl) rfl rfl ?_
            refine WL.val (run_load1 Try.isAgg91 rfl (h.cellB rfl)) rfl rfl ?_
            refine WL.val (run_addW rfl rfl) rfl rfl ?_
            refine WL.val (run_nilCheck rfl) rfl rfl ?_
            refine WL.val (run_fieldAddr 10 Try.underlying93 rfl Try.sizeOf91 rfl rfl) rfl rfl ?_
            refine WL.eff (eff_store (v := .int .u32 _) h Try.sizeOf91 rfl rfl rfl rfl rfl) rfl rfl ?_
            rintro _ w h
            try simp only [Nat.zero_add, Nat.add_zero, List.set_cons_zero, List.set_cons_succ] at h
            refine WL.nil ?_
            refine W.seq ?_
            refine W.seq ?_
            have et0 : preT0 t hh other typ = t.inc := by unfold preT0; rw [if_neg htk]
            have h := h.fetch (blk b (t.cells.set (0 + 10) (.int .u32 (IntKind.u32.wrap (t.gen + 1)))) 93)
            have h : On W0 (blk b t.inc.cells 93 :: _) w := h
            rw [← et0, ← zer_nil (preT0 t hh other typ)] at h
            have hok2 : preOk t hh key other typ := ⟨hok, c8, (fun e => c14 (by rw [e]; rfl)), fun hh => (htk hh).elim⟩
            have h : On W0 (Own 2 (.slice a (preL t hh other).length (preL t hh other).length) (preL t hh other).length (notesV 10757 (preL t hh other)) :: blk b (zer (preT0 t hh other typ) []).cells 93 :: blk b10 [.int .i64 0, .int .i64 0, .int .i64 0, .slice none 0 0, .int .i64 0] 31 :: L) w := h.to
            refine W.region ?_
            refine WL.val run_move rfl rfl ?_
            refine WL.val (run_lenSlice Try.underlying105 rfl) rfl rfl ?_
            refine WL.val run_move rfl rfl ?_
            refine WL.nil ?_
            refine W.block ?_
            refine W.loop (fun (q : Nat) env w => ∃ j, env = mkE j [(0, .pointer (some ⟨b, 0, none⟩)), (1, .int .i64 hh), (10, .pointer (some ⟨b10, 0, none⟩)), (14, .slice a (preL t hh other).length (preL t hh other).length), (83, .slice a (preL t hh other).length (preL t hh other).length), (84, .int .i64 (((preL t hh other).length : Nat) : Int)), (85, .int .i64 (q : Int))] ∧ q ≤ (preL t hh other).length ∧ On W0 (Own 2 (.slice a (preL t hh other).length (preL t hh other).length) (preL t hh other).length (notesV 10757 (preL t hh other)) :: blk b (zer (preT0 t hh other typ) ((preL t hh other).take q)).cells 93 :: blk b10 [.int .i64 0, .int .i64 0, .int .i64 0, .slice none 0 0, .int .i64 0] 31 :: L) w) (fun q => (preL t hh other).length - q) (0) ?_ ?_
            · exact ⟨_, mkE_of ⟨rfl, rfl, rfl, rfl, rfl, rfl, rfl, trivial⟩, Nat.zero_le _, h⟩
            · rintro q env w ⟨j, rfl, hq, h⟩
              refine W.seq ?_
              refine W.region ?_
              refine WL.val (run_lss rfl rfl) rfl rfl ?_
              refine WL.nil ?_
              refine W.seq ?_
              refine W.condIf rfl (fun c32 => ?_) (fun c32 => ?_)
              · skip
                refine W.skip ?_
                refine W.seq ?_
                refine W.block ?_
                refine W.seq ?_
                have hql : q < (preL t hh other).length := by omega
                have ob_ : ∃ i, (preL t hh other)[q]? = some i := ⟨(preL t hh other)[q], by simp⟩
                obtain ⟨i, hi⟩ := ob_
                have hi8 : i < 8 := (hostsN_mem.1 (List.mem_of_getElem? hi)).1
                have ob_ := Own.addr h (by omega)
                obtain ⟨bn, on, rfl⟩ := ob_
                refine W.region ?_
                refine WL.val (run_indexAddr Try.underlying105 Try.sizeOf127 rfl rfl (by omega) (by omega)) rfl rfl ?_
                refine WL.val (run_loadN Try.isAgg127 Try.sizeOf127 rfl rfl ((h.cellsO (v := .slice (some ⟨bn, on, none⟩) (preL t hh other).length (preL t hh other).length)).elem (i := q) (vs := noteV 10757 i) hql (drop_flatMap (noteV 10757) 2 (noteV_length 10757) (preL t hh other) _ _ hi))) rfl rfl ?_
                refine WL.eff (eff_alloc h Try.zeroValue127 rfl) rfl rfl ?_
                rintro _ w ⟨b16, rfl, h⟩
                refine WL.eff (eff_storeN (vs := [.int .i64 _, .int .i64 _]) h Try.sizeOf127 rfl rfl rfl rfl rfl (fun k _ _ => free0 k)) rfl rfl ?_
                rintro _ w h
                try simp only [splice, List.take_zero, List.take_succ_cons, List.take_nil, List.drop_succ_cons, List.drop_zero, List.drop_nil, List.nil_append, List.cons_append, List.append_nil, List.length_cons, List.length_nil, Nat.zero_add, Nat.reduceAdd] at h
                refine WL.nil ?_
                refine W.draw Try.follows h (fun w h => ?_)
                refine WT.pure 0 rfl (by kernel_rfl) (fun w' => run_move) rfl rfl ?_
                refine WT.pure 1 rfl (by kernel_rfl) (fun w' => (run_fieldAddr 0 Try.underlying127 rfl Try.sizeOf3 rfl rfl)) rfl rfl ?_
                refine WT.load1 2 rfl (by kernel_rfl) Try.isAgg3 rfl (h.cellB rfl) rfl rfl ?_
                refine WT.pure 3 rfl (by kernel_rfl) (fun w' => (run_nilCheck rfl)) rfl rfl ?_
                refine WT.pure 4 rfl (by kernel_rfl) (fun w' => (run_fieldAddr 0 Try.underlying93 rfl Try.sizeOf90 rfl rfl)) rfl rfl ?_
                refine WT.pure 5 rfl (by kernel_rfl) (fun w' => (run_indexAddrArr Try.underlying90 Try.sizeOf24 rfl rfl (by omega) (by omega))) rfl rfl ?_
                refine WT.eff 6 [false] rfl (by kernel_rfl) (by kernel_rfl) (eff_store (v := .int .u64 _) h Try.sizeOf24 rfl rfl rfl (cells_lt hi8) (free0 _)) rfl rfl ?_
                rintro _ w h
                rw [cells_set hi8, ← zer_snoc, ← RsM.take_snoc hi] at h
                refine ⟨trivial, ?_⟩
                refine WT.done (by kernel_rfl) ?_
                refine W.region ?_
                refine WL.val (run_incN rfl rfl (by omega)) rfl rfl ?_
                refine WL.val run_move rfl rfl ?_
                refine WL.nil ?_
                -- round, path TFFTFLT
                exact ⟨q + 1, ⟨_, mkE_of ⟨rfl, rfl, rfl, rfl, rfl, rfl, rfl, trivial⟩, by omega, h.to⟩, by show (preL t hh other).length - (q + 1) < (preL t hh other).length - q; omega⟩
              · skip
                refine W.exit ?_
                refine W.seq ?_
                refine W.region ?_
                refine WL.eff (eff_call Try.call60 (good_ok h)) rfl rfl ?_
                rintro _ w ⟨rfl, h⟩
                refine WL.val run_move rfl rfl ?_
                refine WL.eff (eff_storeN (vs := [.int .i64 _, .int .i64 _, .int .i64 _, .slice _ _ _, .int .i64 _]) h Try.sizeOf31 rfl rfl rfl rfl rfl (fun k _ _ => free0 k)) rfl rfl ?_
                rintro _ w h
                try simp only [splice, List.take_zero, List.take_succ_cons, List.take_nil, List.drop_succ_cons, List.drop_zero, List.drop_nil, List.nil_append, List.cons_append, List.append_nil, List.length_cons, List.length_nil, Nat.zero_add, Nat.reduceAdd] at h
                refine WL.val run_assign rfl rfl ?_
                refine WL.nil ?_
                refine W.ret ?_
                refine bodyQ.rctB (vs := [.int .i64 _, .int .i64 _, .int .i64 _, .slice _ _ _, .int .i64 _]) (v2 := .slice _ _ _) h Try.results42 Try.isAgg31 Try.sizeOf31 rfl rfl rfl rfl ?_
                -- path TFFTFLF
                have ob_ : q = (preL t hh other).length := by omega
                obtain rfl := ob_
                rw [List.take_length] at h
                have h : On W0 (Own 2 (.slice a (preL t hh other).length (preL t hh other).length) (preL t hh other).length (notesV 10757 (preL t hh other)) :: blk b (preT t hh other typ).cells 93 :: _) w := h
                exact .inl ⟨hok2, a, rfl, h.to⟩
        · skip
          refine WT.pure 5 rfl (by kernel_rfl) (fun w' => run_move) rfl rfl ?_
          refine WT.skip 6 rfl (by kernel_rfl) rfl rfl ?_
          refine WT.skip 7 rfl (by kernel_rfl) rfl rfl ?_
          refine WT.skip 8 rfl (by kernel_rfl) rfl rfl ?_
          refine WT.skip 9 rfl (by kernel_rfl) rfl rfl ?_
          refine WT.skip 10 rfl (by kernel_rfl) rfl rfl ?_
          refine WT.skip 11 rfl (by kernel_rfl) rfl rfl ?_
          refine WT.pure 12 rfl (by kernel_rfl) (fun w' => (run_pickF rfl)) rfl rfl ?_
          refine WT.pure 13 rfl (by kernel_rfl) (fun w' => run_move) rfl rfl ?_
          refine WT.skip 14 rfl (by kernel_rfl) rfl rfl ?_
          refine WT.skip 15 rfl (by kernel_rfl) rfl rfl ?_
          refine WT.skip 16 rfl (by kernel_rfl) rfl rfl ?_
          refine WT.skip 17 rfl (by kernel_rfl) rfl rfl ?_
          refine WT.skip 18 rfl (by kernel_rfl) rfl rfl ?_
          refine WT.skip 19 rfl (by kernel_rfl) rfl rfl ?_
          refine WT.skip 20 rfl (by kernel_rfl) rfl rfl ?_
          refine WT.skip 21 rfl (by kernel_rfl) rfl rfl ?_
          refine WT.skip 22 rfl (by kernel_rfl) rfl rfl ?_
          refine WT.skip 23 rfl (by kernel_rfl) rfl rfl ?_
          refine WT.skip 24 rfl (by kernel_rfl) rfl rfl ?_
          refine WT.pure 25 rfl (by kernel_rfl) (fun w' => (run_pickF rfl)) rfl rfl ?_
          refine WT.done (by kernel_rfl) ?_
          refine W.condF rfl ?_
          refine W.skip ?_
          refine W.seq ?_
          have htk : ¬ takesP t hh other := fun hh => c42 hh.1
          refine W.region ?_
          refine WL.val run_move rfl rfl ?_
          refine WL.val (run_nilCheck rfl) rfl rfl ?_
          refine WL.val (run_fieldAddr 10 Try.underlying93 rfl Try.sizeOf91 rfl rfl) rfl rfl ?_
          refine WL.val (run_load1 Try.isAgg91 rfl (h.cellB rfl)) rfl rfl ?_
          refine WL.val (run_addW rfl rfl) rfl rfl ?_
          refine WL.val (run_nilCheck rfl) rfl rfl ?_
          refine WL.val (run_fieldAddr 10 Try.underlying93 rfl Try.sizeOf91 rfl rfl) rfl rfl ?_
          refine WL.eff (eff_store (v := .int .u32 _) h Try.sizeOf91 rfl rfl rfl rfl rfl) rfl rfl ?_
          rintro _ w h
          try simp only [Nat.zero_add, Nat.add_zero, List.set_cons_zero, List.set_cons_succ] at h
          refine WL.nil ?_
          refine W.seq ?_
          refine W.seq ?_
          have et0 : preT0 t hh other typ = t.inc := by unfold preT0; rw [if_neg htk]
          have h := h.fetch (blk b (t.cells.set (0 + 10) (.int .u32 (IntKind.u32.wrap (t.gen + 1)))) 93)
          have h : On W0 (blk b t.inc.cells 93 :: _) w := h
          rw [← et0, ← zer_nil (preT0 t hh other typ)] at h
          have hok2 : preOk t hh key other typ := ⟨hok, c8, (fun e => c14 (by rw [e]; rfl)), fun hh => (htk hh).elim⟩
          have h : On W0 (Own 2 (.slice a (preL t hh other).length (preL t hh other).length) (preL t hh other).length (notesV 10757 (preL t hh other)) :: blk b (zer (preT0 t hh other typ) []).cells 93 :: blk b10 [.int .i64 0, .int .i64 0, .int .i64 0, .slice none 0 0, .int .i64 0] 31 :: L) w := h.to
          refine W.region ?_
          refine WL.val run_move rfl rfl ?_
          refine WL.val (run_lenSlice Try.underlying105 rfl) rfl rfl ?_
          refine WL.val run_move rfl rfl ?_
          refine WL.nil ?_
          refine W.block ?_
          refine W.loop (fun (q : Nat) env w => ∃ j, env = mkE j [(0, .pointer (some ⟨b, 0, none⟩)), (1, .int .i64 hh), (10, .pointer (some ⟨b10, 0, none⟩)), (14, .slice a (preL t hh other).length (preL t hh other).length), (83, .slice a (preL t hh other).length (preL t hh other).length), (84, .int .i64 (((preL t hh other).length : Nat) : Int)), (85, .int .i64 (q : Int))] ∧ q ≤ (preL t hh other).length ∧ On W0 (Own 2 (.slice a (preL t hh other).length (preL t hh other).length) (preL t hh other).length (notesV 10757 (preL t hh other)) :: blk b (zer (preT0 t hh other typ) ((preL t hh other).take q)).cells 93 :: blk b10 [.int .i64 0, .int .i64 0, .int .i64 0, .slice none 0 0, .int .i64 0] 31 :: L) w) (fun q => (preL t hh other).length - q) (0) ?_ ?_
          · exact ⟨_, mkE_of ⟨rfl, rfl, rfl, rfl, rfl, rfl, rfl, trivial⟩, Nat.zero_le _, h⟩
          · rintro q env w ⟨j, rfl, hq, h⟩
            refine W.seq ?_
            refine W.region ?_
            refine WL.val (run_lss rfl rfl) rfl rfl ?_
            refine WL.nil ?_
            refine W.seq ?_
            refine W.condIf rfl (fun c32 => ?_) (fun c32 => ?_)
            · skip
              refine W.skip ?_
              refine W.seq ?_
              refine W.block ?_
              refine W.seq ?_
              have hql : q < (preL t hh other).length := by omega
              have ob_ : ∃ i, (preL t hh other)[q]? = some i := ⟨(preL t hh other)[q], by simp⟩
              obtain ⟨i, hi⟩ := ob_
              have hi8 : i < 8 := (hostsN_mem.1 (List.mem_of_getElem? hi)).1
              have ob_ := Own.addr h (by omega)
              obtain ⟨bn, on, rfl⟩ := ob_
              refine W.region ?_
              refine WL.val (run_indexAddr Try.underlying105 Try.sizeOf127 rfl rfl (by omega) (by omega)) rfl rfl ?_
              refine WL.val (run_loadN Try.isAgg127 Try.sizeOf127 rfl rfl ((h.cellsO (v := .slice (some ⟨bn, on, none⟩) (preL t hh other).length (preL t hh other).length)).elem (i := q) (vs := noteV 10757 i) hql (drop_flatMap (noteV 10757) 2 (noteV_length 10757) (preL t hh other) _ _ hi))) rfl rfl ?_
              refine WL.eff (eff_alloc h Try.zeroValue127 rfl) rfl rfl ?_
              rintro _ w ⟨b16, rfl, h⟩
              refine WL.eff (eff_storeN (vs := [.int .i64 _, .int .i64 _]) h Try.sizeOf127 rfl rfl rfl rfl rfl (fun k _ _ => free0 k)) rfl rfl ?_
              rintro _ w h
              try simp only [splice, List.take_zero, List.take_succ_cons, List.take_nil, List.drop_succ_cons, List.drop_zero, List.drop_nil, List.nil_append, List.cons_append, List.append_nil, List.length_cons, List.length_nil, Nat.zero_add, Nat.reduceAdd] at h
              refine WL.nil ?_
              refine W.draw Try.follows h (fun w h => ?_)
              refine WT.pure 0 rfl (by kernel_rfl) (fun w' => run_move) rfl rfl ?_
              refine WT.pure 1 rfl (by kernel_rfl) (fun w' => (run_fieldAddr 0 Try.underlying127 rfl Try.sizeOf3 rfl rfl)) rfl rfl ?_
              refine WT.load1 2 rfl (by kernel_rfl) Try.isAgg3 rfl (h.cellB rfl) rfl rfl ?_
              refine WT.pure 3 rfl (by kernel_rfl) (fun w' => (run_nilCheck rfl)) rfl rfl ?_
              refine WT.pure 4 rfl (by kernel_rfl) (fun w' => (run_fieldAddr 0 Try.underlying93 rfl Try.sizeOf90 rfl rfl)) rfl rfl ?_
              refine WT.pure 5 rfl (by kernel_rfl) (fun w' => (run_indexAddrArr Try.underlying90 Try.sizeOf24 rfl rfl (by omega) (by omega))) rfl rfl ?_
              refine WT.eff 6 [false] rfl (by kernel_rfl) (by kernel_rfl) (eff_store (v := .int .u64 _) h Try.sizeOf24 rfl rfl rfl (cells_lt hi8) (free0 _)) rfl rfl ?_
              rintro _ w h
              rw [cells_set hi8, ← zer_snoc, ← RsM.take_snoc hi] at h
              refine ⟨trivial, ?_⟩
              refine WT.done (by kernel_rfl) ?_
              refine W.region ?_
              refine WL.val (run_incN rfl rfl (by omega)) rfl rfl ?_
              refine WL.val run_move rfl rfl ?_
              refine WL.nil ?_
              -- round, path TFFFLT
              exact ⟨q + 1, ⟨_, mkE_of ⟨rfl, rfl, rfl, rfl, rfl, rfl, rfl, trivial⟩, by omega, h.to⟩, by show (preL t hh other).length - (q + 1) < (preL t hh other).length - q; omega⟩
            · skip
              refine W.exit ?_
              refine W.seq ?_
              refine W.region ?_
              refine WL.eff (eff_call Try.call60 (good_ok h)) rfl rfl ?_
              rintro _ w ⟨rfl, h⟩
              refine WL.val run_move rfl rfl ?_
              refine WL.eff (eff_storeN (vs := [.int .i64 _, .int .i64 _, .int .i64 _, .slice _ _ _, .int .i64 _]) h Try.sizeOf31 rfl rfl rfl rfl rfl (fun k _ _ => free0 k)) rfl rfl ?_
              rintro _ w h
              try simp only [splice, List.take_zero, List.take_succ_cons, List.take_nil, List.drop_succ_cons, List.drop_zero, List.drop_nil, List.nil_append, List.cons_append, List.append_nil, List.length_cons, List.length_nil, Nat.zero_add, Nat.reduceAdd] at h
              refine WL.val run_assign rfl rfl ?_
              refine WL.nil ?_
              refine W.ret ?_
              refine bodyQ.rctB (vs := [.int .i64 _, .int .i64 _, .int .i64 _, .slice _ _ _, .int .i64 _]) (v2 := .slice _ _ _) h Try.results42 Try.isAgg31 Try.sizeOf31 rfl rfl rfl rfl ?_
              -- path TFFFLF
              have ob_ : q = (preL t hh other).length := by omega
              obtain rfl := ob_
              rw [List.take_length] at h
              have h : On W0 (Own 2 (.slice a (preL t hh other).length (preL t hh other).length) (preL t hh other).length (notesV 10757 (preL t hh other)) :: blk b (preT t hh other typ).cells 93 :: _) w := h
              exact .inl ⟨hok2, a, rfl, h.to⟩
  · skip
    refine WL.val run_move rfl rfl ?_
    refine WL.val (run_extract rfl rfl) rfl rfl ?_
    refine WL.val (run_extract rfl rfl) rfl rfl ?_
    refine WL.eff (eff_alloc h Try.zeroValue31 rfl) rfl rfl ?_
    rintro _ w ⟨b12, rfl, h⟩
    refine WL.eff (eff_storeN (vs := [.int .i64 _, .int .i64 _, .int .i64 _, .slice _ _ _, .int .i64 _]) h Try.sizeOf31 rfl rfl rfl rfl rfl (fun k _ _ => free0 k)) rfl rfl ?_
    rintro _ w h
    try simp only [splice, List.take_zero, List.take_succ_cons, List.take_nil, List.drop_succ_cons, List.drop_zero, List.drop_nil, List.nil_append, List.cons_append, List.append_nil, List.length_cons, List.length_nil, Nat.zero_add, Nat.reduceAdd] at h
    refine WL.val run_assign rfl rfl ?_
    refine WL.nil ?_
    refine W.seq ?_
    refine W.region ?_
    refine WL.val run_move rfl rfl ?_
    refine WL.val (run_not rfl) rfl rfl ?_
    refine WL.nil ?_
    refine W.condT rfl ?_
    refine W.seq ?_
    refine W.region ?_
    refine WL.val (run_loadB (vs := [.int .i64 _, .int .i64 _, .int .i64 _, .slice _ _ _, .int .i64 _]) h Try.isAgg31 Try.sizeOf31 rfl rfl rfl) rfl rfl ?_
    refine WL.eff (eff_storeN (vs := [.int .i64 _, .int .i64 _, .int .i64 _, .slice _ _ _, .int .i64 _]) h Try.sizeOf31 rfl rfl rfl rfl rfl (fun k _ _ => free0 k)) rfl rfl ?_
    rintro _ w h
    try simp only [splice, List.take_zero, List.take_succ_cons, List.take_nil, List.drop_succ_cons, List.drop_zero, List.drop_nil, List.nil_append, List.cons_append, List.append_nil, List.length_cons, List.length_nil, Nat.zero_add, Nat.reduceAdd] at h
    refine WL.val run_assign rfl rfl ?_
    refine WL.nil ?_
    refine W.ret ?_
    refine bodyQ.rctB (vs := [.int .i64 _, .int .i64 _, .int .i64 _, .slice _ _ _, .int .i64 _]) (v2 := .slice _ _ _) h Try.results42 Try.isAgg31 Try.sizeOf31 rfl rfl rfl rfl ?_
    -- path F
    exact .inr ⟨fun hh => hno hh.1, s, k, c, rfl, h.to⟩

end Go.Proofs.Ytdpakoefdpmebaa
