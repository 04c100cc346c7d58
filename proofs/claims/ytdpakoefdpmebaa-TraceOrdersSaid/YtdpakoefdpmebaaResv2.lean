/-
  The contracts of reservations. Lines of walks printed by a program of the prover's.
-/
import Derived.Test.YtdpakoefdpmebaaResv
import Derived.Test.YtdpakoefdpmebaaResvModel
namespace Go.Proofs.Ytdpakoefdpmebaa
open Go Go.Sl Go.Sl.RsM
set_option linter.unusedVariables false
set_option linter.unusedSimpArgs false
set_option maxHeartbeats 1000000
set_option maxRecDepth 8000
variable {W0 w : World} {L F : List HProp}

theorem register_ok {b : Nat} {t : Tb} {hh key fresh : Int} {ign : Bool} (h : On W0 (blk b t.cells 93 :: L) w) : Calls Try.prog 38 #[.pointer (some ⟨b, 0, none⟩), .int .i64 hh, .int .u64 key, .int .u64 fresh, .bool ign] w (Ret fun v w' => (∃ i : Nat, hh = i ∧ i < 8 ∧ (ign = true ∨ key = t.K i) ∧ ∃ a c, v = .tuple #[rep 0 0 0, .slice a (regO t i fresh).1.length c] ∧ On W0 (Own 2 (.slice a (regO t i fresh).1.length c) (regO t i fresh).1.length (notesV 10756 ((regO t i fresh).1)) :: blk b (regO t i fresh).2.cells 93 :: L) w') ∨ (¬ (∃ i : Nat, hh = i ∧ i < 8 ∧ (ign = true ∨ key = t.K i)) ∧ ∃ s k c, v = .tuple #[rep s k c, .slice none 0 0] ∧ On W0 (blk b t.cells 93 :: L) w')) := by
  refine enter Try.func38 rfl Try.ntmps38 rfl ?_
  refine W.seq ?_
  refine W.region ?_
  refine WL.eff (eff_alloc h Try.zeroValue31 rfl) rfl rfl ?_
  rintro _ w ⟨b10, rfl, h⟩
  refine WL.val run_assign rfl rfl ?_
  refine WL.nil ?_
  refine W.seq ?_
  refine W.block ?_
  refine W.seq ?_
  refine W.region ?_
  refine WL.val run_move rfl rfl ?_
  refine WL.eff (eff_call Try.call32 (host_ok h)) rfl rfl ?_
  rintro _ w ⟨hv, h⟩
  have hcs := Bool.eq_false_or_eq_true (hostB hh)
  rcases hcs with hb | hb <;> (rw [hb] at hv; subst hv)
  · skip
    refine WL.val (run_not rfl) rfl rfl ?_
    refine WL.val run_assign rfl rfl ?_
    refine WL.nil ?_
    refine W.condF rfl ?_
    refine W.seq ?_
    have ob_ := hostB_iff.1 hb
    obtain ⟨hi0, hi8⟩ := ob_
    have ob_ := Int.eq_ofNat_of_zero_le hi0
    obtain ⟨i, rfl⟩ := ob_
    have hi : i < 8 := by omega
    refine W.region ?_
    refine WL.val run_move rfl rfl ?_
    refine WL.boolB (run_not rfl) rfl rfl (fun c20 => ?_) (fun c20 => ?_)
    · skip
      refine WL.val run_move rfl rfl ?_
      refine WL.val run_move rfl rfl ?_
      refine WL.val run_move rfl rfl ?_
      refine WL.val run_move rfl rfl ?_
      refine WL.val (run_nilCheck rfl) rfl rfl ?_
      refine WL.val (run_fieldAddr 0 Try.underlying93 rfl Try.sizeOf90 rfl rfl) rfl rfl ?_
      refine WL.val (run_indexAddrArr Try.underlying90 Try.sizeOf24 rfl rfl (by omega) (by omega)) rfl rfl ?_
      refine WL.val (run_load1 Try.isAgg24 rfl (h.cellB (cells_at hi))) rfl rfl ?_
      refine WL.val (run_neq rfl rfl) rfl rfl ?_
      refine WL.val (run_pickT rfl) rfl rfl ?_
      refine WL.val run_assign rfl rfl ?_
      refine WL.nil ?_
      refine W.condIf rfl (fun c7 => ?_) (fun c7 => ?_)
      · skip
        refine W.seq ?_
        refine W.region ?_
        refine WL.eff (eff_call Try.call58 (conflict_ok h)) rfl rfl ?_
        rintro _ w ⟨rfl, h⟩
        refine WL.eff (eff_storeN (vs := [.int .i64 _, .int .i64 _, .int .i64 _, .slice _ _ _, .int .i64 _]) h Try.sizeOf31 rfl rfl rfl rfl rfl (fun k _ _ => free0 k)) rfl rfl ?_
        rintro _ w h
        try simp only [splice, List.take_zero, List.take_succ_cons, List.take_nil, List.drop_succ_cons, List.drop_zero, List.drop_nil, List.nil_append, List.cons_append, List.append_nil, List.length_cons, List.length_nil, Nat.zero_add, Nat.reduceAdd] at h
        refine WL.val run_assign rfl rfl ?_
        refine WL.nil ?_
        refine W.ret ?_
        refine bodyQ.rctB (vs := [.int .i64 _, .int .i64 _, .int .i64 _, .slice _ _ _, .int .i64 _]) (v2 := .slice _ _ _) h Try.results38 Try.isAgg31 Try.sizeOf31 rfl rfl rfl rfl ?_
        -- path TTT
        exact .inr ⟨by rintro ⟨j, hj, h1, h2⟩; have hj2 : i = j := Int.ofNat.inj hj; subst hj2; rcases h2 with h2 | h2; rw [h2] at c20; cases c20; exact c7 h2, 24, 0, 0, rfl, h.to⟩
      · skip
        refine W.skip ?_
        refine W.seq ?_
        refine W.region ?_
        refine WL.val run_move rfl rfl ?_
        refine WL.val (run_nilCheck rfl) rfl rfl ?_
        refine WL.val (run_fieldAddr 10 Try.underlying93 rfl Try.sizeOf91 rfl rfl) rfl rfl ?_
        refine WL.val (run_load1 Try.isAgg91 rfl (h.cellB rfl)) rfl rfl ?_
        refine WL.val (run_addW rfl rfl) rfl rfl ?_
        refine WL.val (run_nilCheck rfl) rfl rfl ?_
        refine WL.val (run_fieldAddr 10 Try.underlying93 rfl Try.sizeOf91 rfl rfl) rfl rfl ?_
        refine WL.eff (eff_store (v := .int .u32 _) h Try.sizeOf91 rfl rfl rfl rfl rfl) rfl rfl ?_
        rintro _ w h
        try simp only [Nat.zero_add, Nat.add_zero, List.set_cons_zero, List.set_cons_succ] at h
        refine WL.nil ?_
        refine W.seq ?_
        have h : On W0 (blk b10 _ 31 :: blk b t.inc.cells 93 :: L) w := h
        refine W.region ?_
        refine WL.val run_assign rfl rfl ?_
        refine WL.nil ?_
        refine W.seq ?_
        refine W.seq ?_
        refine W.region ?_
        refine WL.val run_move rfl rfl ?_
        refine WL.dec (run_eql rfl rfl) rfl rfl (fun c40 => ?_) (fun c40 => ?_)
        · skip
          refine WL.val run_move rfl rfl ?_
          refine WL.val run_move rfl rfl ?_
          refine WL.val (run_nilCheck rfl) rfl rfl ?_
          refine WL.val (run_fieldAddr 8 Try.underlying93 rfl Try.sizeOf3 rfl rfl) rfl rfl ?_
          refine WL.val (run_load1 Try.isAgg3 rfl (h.cellB rfl)) rfl rfl ?_
          refine WL.val run_move rfl rfl ?_
          refine WL.val (run_eql rfl rfl) rfl rfl ?_
          refine WL.val (run_pickT rfl) rfl rfl ?_
          refine WL.nil ?_
          refine W.condIf rfl (fun c14 => ?_) (fun c14 => ?_)
          · skip
            refine W.region ?_
            refine WL.val run_move rfl rfl ?_
            refine WL.val run_move rfl rfl ?_
            refine WL.eff (eff_call Try.call59 (drop_ok (t := t.inc) (hh := (i : Int)) (h.fetch (blk b t.inc.cells 93)))) rfl rfl ?_
            rintro _ w ⟨ad, rfl, h⟩
            have h : On W0 (Own 2 (.slice ad (t.told i).length (t.told i).length) (t.told i).length (notesV 10756 (t.told i)) :: blk b t.inc.freed.cells 93 :: _) w := h
            refine WL.val run_assign rfl rfl ?_
            refine WL.nil ?_
            refine W.seq ?_
            refine W.region ?_
            refine WL.val run_move rfl rfl ?_
            refine WL.val run_move rfl rfl ?_
            refine WL.val run_move rfl rfl ?_
            refine WL.val (run_nilCheck rfl) rfl rfl ?_
            refine WL.val (run_fieldAddr 0 Try.underlying93 rfl Try.sizeOf90 rfl rfl) rfl rfl ?_
            refine WL.val (run_indexAddrArr Try.underlying90 Try.sizeOf24 rfl rfl (by omega) (by omega)) rfl rfl ?_
            refine WL.eff (eff_store (v := .int .u64 _) h Try.sizeOf24 rfl rfl rfl (cells_lt hi) (free0 _)) rfl rfl ?_
            rintro _ w h
            rw [cells_set hi] at h
            refine WL.nil ?_
            refine W.seq ?_
            refine W.region ?_
            refine WL.eff (eff_call Try.call60 (good_ok h)) rfl rfl ?_
            rintro _ w ⟨rfl, h⟩
            refine WL.val run_move rfl rfl ?_
            refine WL.eff (eff_storeN (vs := [.int .i64 _, .int .i64 _, .int .i64 _, .slice _ _ _, .int .i64 _]) h Try.sizeOf31 rfl rfl rfl rfl rfl (fun k _ _ => free0 k)) rfl rfl ?_
            rintro _ w h
            try simp only [splice, List.take_zero, List.take_succ_cons, List.take_nil, List.drop_succ_cons, List.drop_zero, List.drop_nil, List.nil_append, List.cons_append, List.append_nil, List.length_cons, List.length_nil, Nat.zero_add, Nat.reduceAdd] at h
            refine WL.val run_assign rfl rfl ?_
            refine WL.nil ?_
            refine W.ret ?_
            refine bodyQ.rctB (vs := [.int .i64 _, .int .i64 _, .int .i64 _, .slice _ _ _, .int .i64 _]) (v2 := .slice _ _ _) h Try.results38 Try.isAgg31 Try.sizeOf31 rfl rfl rfl rfl ?_
            -- path TTFTT
            have e : regO t i fresh = (t.told i, t.inc.freed.put i fresh) := by unfold regO; rw [if_pos ⟨by omega, c14⟩]
            refine .inl ⟨i, rfl, hi, .inr (by omega), ?_⟩
            rw [e]
            dsimp only
            exact ⟨ad, (t.told i).length, rfl, h.to⟩
          · skip
            refine W.skip ?_
            refine W.seq ?_
            refine W.region ?_
            refine WL.val run_move rfl rfl ?_
            refine WL.val run_move rfl rfl ?_
            refine WL.val run_move rfl rfl ?_
            refine WL.val (run_nilCheck rfl) rfl rfl ?_
            refine WL.val (run_fieldAddr 0 Try.underlying93 rfl Try.sizeOf90 rfl rfl) rfl rfl ?_
            refine WL.val (run_indexAddrArr Try.underlying90 Try.sizeOf24 rfl rfl (by omega) (by omega)) rfl rfl ?_
            refine WL.eff (eff_store (v := .int .u64 _) h Try.sizeOf24 rfl rfl rfl (cells_lt hi) (free0 _)) rfl rfl ?_
            rintro _ w h
            rw [cells_set hi] at h
            refine WL.nil ?_
            refine W.seq ?_
            refine W.region ?_
            refine WL.eff (eff_call Try.call60 (good_ok h)) rfl rfl ?_
            rintro _ w ⟨rfl, h⟩
            refine WL.val run_move rfl rfl ?_
            refine WL.eff (eff_storeN (vs := [.int .i64 _, .int .i64 _, .int .i64 _, .slice _ _ _, .int .i64 _]) h Try.sizeOf31 rfl rfl rfl rfl rfl (fun k _ _ => free0 k)) rfl rfl ?_
            rintro _ w h
            try simp only [splice, List.take_zero, List.take_succ_cons, List.take_nil, List.drop_succ_cons, List.drop_zero, List.drop_nil, List.nil_append, List.cons_append, List.append_nil, List.length_cons, List.length_nil, Nat.zero_add, Nat.reduceAdd] at h
            refine WL.val run_assign rfl rfl ?_
            refine WL.nil ?_
            refine W.ret ?_
            refine bodyQ.rctB (vs := [.int .i64 _, .int .i64 _, .int .i64 _, .slice _ _ _, .int .i64 _]) (v2 := .slice _ _ _) h Try.results38 Try.isAgg31 Try.sizeOf31 rfl rfl rfl rfl ?_
            -- path TTFTF
            have e : regO t i fresh = ([], t.inc.put i fresh) := by unfold regO; rw [if_neg (fun hh => c14 hh.2)]
            refine .inl ⟨i, rfl, hi, .inr (by omega), ?_⟩
            rw [e]
            dsimp only
            exact ⟨none, 0, rfl, (show On W0 (Own 2 (.slice none 0 0) 0 [] :: blk b (t.inc.put i fresh).cells 93 :: L) w from (h.ownEmpty 2 none).to)⟩
        · skip
          refine WL.val run_move rfl rfl ?_
          refine WL.skip rfl rfl ?_
          refine WL.skip rfl rfl ?_
          refine WL.skip rfl rfl ?_
          refine WL.skip rfl rfl ?_
          refine WL.skip rfl rfl ?_
          refine WL.skip rfl rfl ?_
          refine WL.val (run_pickF rfl) rfl rfl ?_
          refine WL.nil ?_
          refine W.condF rfl ?_
          refine W.skip ?_
          refine W.seq ?_
          refine W.region ?_
          refine WL.val run_move rfl rfl ?_
          refine WL.val run_move rfl rfl ?_
          refine WL.val run_move rfl rfl ?_
          refine WL.val (run_nilCheck rfl) rfl rfl ?_
          refine WL.val (run_fieldAddr 0 Try.underlying93 rfl Try.sizeOf90 rfl rfl) rfl rfl ?_
          refine WL.val (run_indexAddrArr Try.underlying90 Try.sizeOf24 rfl rfl (by omega) (by omega)) rfl rfl ?_
          refine WL.eff (eff_store (v := .int .u64 _) h Try.sizeOf24 rfl rfl rfl (cells_lt hi) (free0 _)) rfl rfl ?_
          rintro _ w h
          rw [cells_set hi] at h
          refine WL.nil ?_
          refine W.seq ?_
          refine W.region ?_
          refine WL.eff (eff_call Try.call60 (good_ok h)) rfl rfl ?_
          rintro _ w ⟨rfl, h⟩
          refine WL.val run_move rfl rfl ?_
          refine WL.eff (eff_storeN (vs := [.int .i64 _, .int .i64 _, .int .i64 _, .slice _ _ _, .int .i64 _]) h Try.sizeOf31 rfl rfl rfl rfl rfl (fun k _ _ => free0 k)) rfl rfl ?_
          rintro _ w h
          try simp only [splice, List.take_zero, List.take_succ_cons, List.take_nil, List.drop_succ_cons, List.drop_zero, List.drop_nil, List.nil_append, List.cons_append, List.append_nil, List.length_cons, List.length_nil, Nat.zero_add, Nat.reduceAdd] at h
          refine WL.val run_assign rfl rfl ?_
          refine WL.nil ?_
          refine W.ret ?_
          refine bodyQ.rctB (vs := [.int .i64 _, .int .i64 _, .int .i64 _, .slice _ _ _, .int .i64 _]) (v2 := .slice _ _ _) h Try.results38 Try.isAgg31 Try.sizeOf31 rfl rfl rfl rfl ?_
          -- path TTFF
          have e : regO t i fresh = ([], t.inc.put i fresh) := by unfold regO; rw [if_neg (fun hh => c40 hh.1)]
          refine .inl ⟨i, rfl, hi, .inr (by omega), ?_⟩
          rw [e]
          dsimp only
          exact ⟨none, 0, rfl, (show On W0 (Own 2 (.slice none 0 0) 0 [] :: blk b (t.inc.put i fresh).cells 93 :: L) w from (h.ownEmpty 2 none).to)⟩
    · skip
      refine WL.val run_move rfl rfl ?_
      refine WL.skip rfl rfl ?_
      refine WL.skip rfl rfl ?_
      refine WL.skip rfl rfl ?_
      refine WL.skip rfl rfl ?_
      refine WL.skip rfl rfl ?_
      refine WL.skip rfl rfl ?_
      refine WL.skip rfl rfl ?_
      refine WL.skip rfl rfl ?_
      refine WL.val (run_pickF rfl) rfl rfl ?_
      refine WL.val run_assign rfl rfl ?_
      refine WL.nil ?_
      refine W.condF rfl ?_
      refine W.skip ?_
      refine W.seq ?_
      refine W.region ?_
      refine WL.val run_move rfl rfl ?_
      refine WL.val (run_nilCheck rfl) rfl rfl ?_
      refine WL.val (run_fieldAddr 10 Try.underlying93 rfl Try.sizeOf91 rfl rfl) rfl rfl ?_
      refine WL.val (run_load1 Try.isAgg91 rfl (h.cellB rfl)) rfl rfl ?_
      refine WL.val (run_addW rfl rfl) rfl rfl ?_
      refine WL.val (run_nilCheck rfl) rfl rfl ?_
      refine WL.val (run_fieldAddr 10 Try.underlying93 rfl Try.sizeOf91 rfl rfl) rfl rfl ?_
      refine WL.eff (eff_store (v := .int .u32 _) h Try.sizeOf91 rfl rfl rfl rfl rfl) rfl rfl ?_
      rintro _ w h
      try simp only [Nat.zero_add, Nat.add_zero, List.set_cons_zero, List.set_cons_succ] at h
      refine WL.nil ?_
      refine W.seq ?_
      have h : On W0 (blk b10 _ 31 :: blk b t.inc.cells 93 :: L) w := h
      refine W.region ?_
      refine WL.val run_assign rfl rfl ?_
      refine WL.nil ?_
      refine W.seq ?_
      refine W.seq ?_
      refine W.region ?_
      refine WL.val run_move rfl rfl ?_
      refine WL.dec (run_eql rfl rfl) rfl rfl (fun c40 => ?_) (fun c40 => ?_)
      · skip
        refine WL.val run_move rfl rfl ?_
        refine WL.val run_move rfl rfl ?_
        refine WL.val (run_nilCheck rfl) rfl rfl ?_
        refine WL.val (run_fieldAddr 8 Try.underlying93 rfl Try.sizeOf3 rfl rfl) rfl rfl ?_
        refine WL.val (run_load1 Try.isAgg3 rfl (h.cellB rfl)) rfl rfl ?_
        refine WL.val run_move rfl rfl ?_
        refine WL.val (run_eql rfl rfl) rfl rfl ?_
        refine WL.val (run_pickT rfl) rfl rfl ?_
        refine WL.nil ?_
        refine W.condIf rfl (fun c14 => ?_) (fun c14 => ?_)
        · skip
          refine W.region ?_
          refine WL.val run_move rfl rfl ?_
          refine WL.val run_move rfl rfl ?_
          refine WL.eff (eff_call Try.call59 (drop_ok (t := t.inc) (hh := (i : Int)) (h.fetch (blk b t.inc.cells 93)))) rfl rfl ?_
          rintro _ w ⟨ad, rfl, h⟩
          have h : On W0 (Own 2 (.slice ad (t.told i).length (t.told i).length) (t.told i).length (notesV 10756 (t.told i)) :: blk b t.inc.freed.cells 93 :: _) w := h
          refine WL.val run_assign rfl rfl ?_
          refine WL.nil ?_
          refine W.seq ?_
          refine W.region ?_
          refine WL.val run_move rfl rfl ?_
          refine WL.val run_move rfl rfl ?_
          refine WL.val run_move rfl rfl ?_
          refine WL.val (run_nilCheck rfl) rfl rfl ?_
          refine WL.val (run_fieldAddr 0 Try.underlying93 rfl Try.sizeOf90 rfl rfl) rfl rfl ?_
          refine WL.val (run_indexAddrArr Try.underlying90 Try.sizeOf24 rfl rfl (by omega) (by omega)) rfl rfl ?_
          refine WL.eff (eff_store (v := .int .u64 _) h Try.sizeOf24 rfl rfl rfl (cells_lt hi) (free0 _)) rfl rfl ?_
          rintro _ w h
          rw [cells_set hi] at h
          refine WL.nil ?_
          refine W.seq ?_
          refine W.region ?_
          refine WL.eff (eff_call Try.call60 (good_ok h)) rfl rfl ?_
          rintro _ w ⟨rfl, h⟩
          refine WL.val run_move rfl rfl ?_
          refine WL.eff (eff_storeN (vs := [.int .i64 _, .int .i64 _, .int .i64 _, .slice _ _ _, .int .i64 _]) h Try.sizeOf31 rfl rfl rfl rfl rfl (fun k _ _ => free0 k)) rfl rfl ?_
          rintro _ w h
          try simp only [splice, List.take_zero, List.take_succ_cons, List.take_nil, List.drop_succ_cons, List.drop_zero, List.drop_nil, List.nil_append, List.cons_append, List.append_nil, List.length_cons, List.length_nil, Nat.zero_add, Nat.reduceAdd] at h
          refine WL.val run_assign rfl rfl ?_
          refine WL.nil ?_
          refine W.ret ?_
          refine bodyQ.rctB (vs := [.int .i64 _, .int .i64 _, .int .i64 _, .slice _ _ _, .int .i64 _]) (v2 := .slice _ _ _) h Try.results38 Try.isAgg31 Try.sizeOf31 rfl rfl rfl rfl ?_
          -- path TFTT
          have e : regO t i fresh = (t.told i, t.inc.freed.put i fresh) := by unfold regO; rw [if_pos ⟨by omega, c14⟩]
          refine .inl ⟨i, rfl, hi, .inl (by simpa using c20), ?_⟩
          rw [e]
          dsimp only
          exact ⟨ad, (t.told i).length, rfl, h.to⟩
        · skip
          refine W.skip ?_
          refine W.seq ?_
          refine W.region ?_
          refine WL.val run_move rfl rfl ?_
          refine WL.val run_move rfl rfl ?_
          refine WL.val run_move rfl rfl ?_
          refine WL.val (run_nilCheck rfl) rfl rfl ?_
          refine WL.val (run_fieldAddr 0 Try.underlying93 rfl Try.sizeOf90 rfl rfl) rfl rfl ?_
          refine WL.val (run_indexAddrArr Try.underlying90 Try.sizeOf24 rfl rfl (by omega) (by omega)) rfl rfl ?_
          refine WL.eff (eff_store (v := .int .u64 _) h Try.sizeOf24 rfl rfl rfl (cells_lt hi) (free0 _)) rfl rfl ?_
          rintro _ w h
          rw [cells_set hi] at h
          refine WL.nil ?_
          refine W.seq ?_
          refine W.region ?_
          refine WL.eff (eff_call Try.call60 (good_ok h)) rfl rfl ?_
          rintro _ w ⟨rfl, h⟩
          refine WL.val run_move rfl rfl ?_
          refine WL.eff (eff_storeN (vs := [.int .i64 _, .int .i64 _, .int .i64 _, .slice _ _ _, .int .i64 _]) h Try.sizeOf31 rfl rfl rfl rfl rfl (fun k _ _ => free0 k)) rfl rfl ?_
          rintro _ w h
          try simp only [splice, List.take_zero, List.take_succ_cons, List.take_nil, List.drop_succ_cons, List.drop_zero, List.drop_nil, List.nil_append, List.cons_append, List.append_nil, List.length_cons, List.length_nil, Nat.zero_add, Nat.reduceAdd] at h
          refine WL.val run_assign rfl rfl ?_
          refine WL.nil ?_
          refine W.ret ?_
          refine bodyQ.rctB (vs := [.int .i64 _, .int .i64 _, .int .i64 _, .slice _ _ _, .int .i64 _]) (v2 := .slice _ _ _) h Try.results38 Try.isAgg31 Try.sizeOf31 rfl rfl rfl rfl ?_
          -- path TFTF
          have e : regO t i fresh = ([], t.inc.put i fresh) := by unfold regO; rw [if_neg (fun hh => c14 hh.2)]
          refine .inl ⟨i, rfl, hi, .inl (by simpa using c20), ?_⟩
          rw [e]
          dsimp only
          exact ⟨none, 0, rfl, (show On W0 (Own 2 (.slice none 0 0) 0 [] :: blk b (t.inc.put i fresh).cells 93 :: L) w from (h.ownEmpty 2 none).to)⟩
      · skip
        refine WL.val run_move rfl rfl ?_
        refine WL.skip rfl rfl ?_
        refine WL.skip rfl rfl ?_
        refine WL.skip rfl rfl ?_
        refine WL.skip rfl rfl ?_
        refine WL.skip rfl rfl ?_
        refine WL.skip rfl rfl ?_
        refine WL.val (run_pickF rfl) rfl rfl ?_
        refine WL.nil ?_
        refine W.condF rfl ?_
        refine W.skip ?_
        refine W.seq ?_
        refine W.region ?_
        refine WL.val run_move rfl rfl ?_
        refine WL.val run_move rfl rfl ?_
        refine WL.val run_move rfl rfl ?_
        refine WL.val (run_nilCheck rfl) rfl rfl ?_
        refine WL.val (run_fieldAddr 0 Try.underlying93 rfl Try.sizeOf90 rfl rfl) rfl rfl ?_
        refine WL.val (run_indexAddrArr Try.underlying90 Try.sizeOf24 rfl rfl (by omega) (by omega)) rfl rfl ?_
        refine WL.eff (eff_store (v := .int .u64 _) h Try.sizeOf24 rfl rfl rfl (cells_lt hi) (free0 _)) rfl rfl ?_
        rintro _ w h
        rw [cells_set hi] at h
        refine WL.nil ?_
        refine W.seq ?_
        refine W.region ?_
        refine WL.eff (eff_call Try.call60 (good_ok h)) rfl rfl ?_
        rintro _ w ⟨rfl, h⟩
        refine WL.val run_move rfl rfl ?_
        refine WL.eff (eff_storeN (vs := [.int .i64 _, .int .i64 _, .int .i64 _, .slice _ _ _, .int .i64 _]) h Try.sizeOf31 rfl rfl rfl rfl rfl (fun k _ _ => free0 k)) rfl rfl ?_
        rintro _ w h
        try simp only [splice, List.take_zero, List.take_succ_cons, List.take_nil, List.drop_succ_cons, List.drop_zero, List.drop_nil, List.nil_append, List.cons_append, List.append_nil, List.length_cons, List.length_nil, Nat.zero_add, Nat.reduceAdd] at h
        refine WL.val run_assign rfl rfl ?_
        refine WL.nil ?_
        refine W.ret ?_
        refine bodyQ.rctB (vs := [.int .i64 _, .int .i64 _, .int .i64 _, .slice _ _ _, .int .i64 _]) (v2 := .slice _ _ _) h Try.results38 Try.isAgg31 Try.sizeOf31 rfl rfl rfl rfl ?_
        -- path TFF
        have e : regO t i fresh = ([], t.inc.put i fresh) := by unfold regO; rw [if_neg (fun hh => c40 hh.1)]
        refine .inl ⟨i, rfl, hi, .inl (by simpa using c20), ?_⟩
        rw [e]
        dsimp only
        exact ⟨none, 0, rfl, (show On W0 (Own 2 (.slice none 0 0) 0 [] :: blk b (t.inc.put i fresh).cells 93 :: L) w from (h.ownEmpty 2 none).to)⟩
  · skip
    refine WL.val (run_not rfl) rfl rfl ?_
    refine WL.val run_assign rfl rfl ?_
    refine WL.nil ?_
    refine W.condT rfl ?_
    refine W.seq ?_
    refine W.region ?_
    refine WL.eff (eff_call Try.call57 (field_ok h)) rfl rfl ?_
    rintro _ w ⟨rfl, h⟩
    refine WL.eff (eff_storeN (vs := [.int .i64 _, .int .i64 _, .int .i64 _, .slice _ _ _, .int .i64 _]) h Try.sizeOf31 rfl rfl rfl rfl rfl (fun k _ _ => free0 k)) rfl rfl ?_
    rintro _ w h
    try simp only [splice, List.take_zero, List.take_succ_cons, List.take_nil, List.drop_succ_cons, List.drop_zero, List.drop_nil, List.nil_append, List.cons_append, List.append_nil, List.length_cons, List.length_nil, Nat.zero_add, Nat.reduceAdd] at h
    refine WL.val run_assign rfl rfl ?_
    refine WL.nil ?_
    refine W.ret ?_
    refine bodyQ.rctB (vs := [.int .i64 _, .int .i64 _, .int .i64 _, .slice _ _ _, .int .i64 _]) (v2 := .slice _ _ _) h Try.results38 Try.isAgg31 Try.sizeOf31 rfl rfl rfl rfl ?_
    -- path F
    have hb2 := hostB_no.1 hb
    exact .inr ⟨by rintro ⟨j, hj, h1, _⟩; omega, 2, 5, 9216, rfl, h.to⟩

theorem reserve_ok {b : Nat} {t : Tb} {hh key typ : Int} (h : On W0 (blk b t.cells 93 :: L) w) : Calls Try.prog 39 #[.pointer (some ⟨b, 0, none⟩), .int .i64 hh, .int .u64 key, .int .i64 typ] w (Ret fun v w' => (okM t hh key ∧ typedB typ = true ∧ t.hold = -1 ∧ v = rep 0 0 0 ∧ On W0 (blk b (t.take hh typ).cells 93 :: L) w') ∨ (¬ (okM t hh key ∧ typedB typ = true ∧ t.hold = -1) ∧ ∃ s k c, v = rep s k c ∧ ((okM t hh key ∧ typedB typ = true ∧ ¬ (t.hold = hh ∧ t.typ = typ)) ∨ (¬ okM t hh key ∧ 0 ≤ hh ∧ hh < 8) → s = 24) ∧ On W0 (blk b t.cells 93 :: L) w')) := by
  refine enter Try.func39 rfl Try.ntmps39 rfl ?_
  refine W.seq ?_
  refine W.region ?_
  refine WL.eff (eff_alloc h Try.zeroValue31 rfl) rfl rfl ?_
  rintro _ w ⟨b8, rfl, h⟩
  refine WL.nil ?_
  refine W.seq ?_
  refine W.seq ?_
  refine W.region ?_
  refine WL.val run_move rfl rfl ?_
  refine WL.val run_move rfl rfl ?_
  refine WL.val run_move rfl rfl ?_
  refine WL.eff (eff_call Try.call61 (may_ok (h.fetch (blk b t.cells 93)))) rfl rfl ?_
  rintro _ w ⟨hv, h⟩
  rcases hv with ⟨hok, rfl⟩ | ⟨hno, s, k, c, rfl, hs24⟩
  · skip
    refine WL.val run_move rfl rfl ?_
    refine WL.val (run_extract rfl rfl) rfl rfl ?_
    refine WL.val (run_extract rfl rfl) rfl rfl ?_
    refine WL.eff (eff_alloc h Try.zeroValue31 rfl) rfl rfl ?_
    rintro _ w ⟨b9, rfl, h⟩
    refine WL.eff (eff_storeN (vs := [.int .i64 _, .int .i64 _, .int .i64 _, .slice _ _ _, .int .i64 _]) h Try.sizeOf31 rfl rfl rfl rfl rfl (fun k _ _ => free0 k)) rfl rfl ?_
    rintro _ w h
    try simp only [splice, List.take_zero, List.take_succ_cons, List.take_nil, List.drop_succ_cons, List.drop_zero, List.drop_nil, List.nil_append, List.cons_append, List.append_nil, List.length_cons, List.length_nil, Nat.zero_add, Nat.reduceAdd] at h
    refine WL.val run_assign rfl rfl ?_
    refine WL.nil ?_
    refine W.seq ?_
    refine W.region ?_
    refine WL.val run_move rfl rfl ?_
    refine WL.val (run_not rfl) rfl rfl ?_
    refine WL.nil ?_
    refine W.condF rfl ?_
    refine W.skip ?_
    refine W.seq ?_
    refine W.block ?_
    refine W.seq ?_
    refine W.region ?_
    refine WL.val run_move rfl rfl ?_
    refine WL.eff (eff_call Try.call62 (typed_ok h)) rfl rfl ?_
    rintro _ w ⟨hv, h⟩
    have hcs := Bool.eq_false_or_eq_true (typedB typ)
    rcases hcs with hty | hty <;> (rw [hty] at hv; subst hv)
    · skip
      refine WL.val (run_not rfl) rfl rfl ?_
      refine WL.val run_assign rfl rfl ?_
      refine WL.nil ?_
      refine W.condF rfl ?_
      refine W.seq ?_
      refine W.region ?_
      refine WL.val run_move rfl rfl ?_
      refine WL.val (run_nilCheck rfl) rfl rfl ?_
      refine WL.val (run_fieldAddr 8 Try.underlying93 rfl Try.sizeOf3 rfl rfl) rfl rfl ?_
      refine WL.val (run_load1 Try.isAgg3 rfl (h.cellB rfl)) rfl rfl ?_
      refine WL.val (run_eql rfl rfl) rfl rfl ?_
      refine WL.val run_assign rfl rfl ?_
      refine WL.nil ?_
      refine W.condIf rfl (fun c13 => ?_) (fun c13 => ?_)
      · skip
        refine W.seq ?_
        refine W.region ?_
        refine WL.val run_move rfl rfl ?_
        refine WL.val run_move rfl rfl ?_
        refine WL.val run_move rfl rfl ?_
        refine WL.val run_move rfl rfl ?_
        refine WL.val (run_nilCheck rfl) rfl rfl ?_
        refine WL.val (run_fieldAddr 8 Try.underlying93 rfl Try.sizeOf3 rfl rfl) rfl rfl ?_
        refine WL.eff (eff_store (v := .int .i64 _) h Try.sizeOf3 rfl rfl rfl rfl rfl) rfl rfl ?_
        rintro _ w h
        try simp only [Nat.zero_add, Nat.add_zero, List.set_cons_zero, List.set_cons_succ] at h
        refine WL.val (run_nilCheck rfl) rfl rfl ?_
        refine WL.val (run_fieldAddr 9 Try.underlying93 rfl Try.sizeOf3 rfl rfl) rfl rfl ?_
        refine WL.eff (eff_store (v := .int .i64 _) h Try.sizeOf3 rfl rfl rfl rfl rfl) rfl rfl ?_
        rintro _ w h
        try simp only [Nat.zero_add, Nat.add_zero, List.set_cons_zero, List.set_cons_succ] at h
        refine WL.nil ?_
        refine W.seq ?_
        have h := h.fetch (blk b ((t.cells.set (0 + 8) (.int .i64 hh)).set (0 + 9) (.int .i64 typ)) 93)
        have h : On W0 (blk b (t.take hh typ).cells 93 :: _) w := h
        refine W.region ?_
        refine WL.eff (eff_call Try.call60 (good_ok h)) rfl rfl ?_
        rintro _ w ⟨rfl, h⟩
        refine WL.eff (eff_storeN (vs := [.int .i64 _, .int .i64 _, .int .i64 _, .slice _ _ _, .int .i64 _]) h Try.sizeOf31 rfl rfl rfl rfl rfl (fun k _ _ => free0 k)) rfl rfl ?_
        rintro _ w h
        try simp only [splice, List.take_zero, List.take_succ_cons, List.take_nil, List.drop_succ_cons, List.drop_zero, List.drop_nil, List.nil_append, List.cons_append, List.append_nil, List.length_cons, List.length_nil, Nat.zero_add, Nat.reduceAdd] at h
        refine WL.nil ?_
        refine W.ret ?_
        refine bodyQ.rcB (vs := [.int .i64 _, .int .i64 _, .int .i64 _, .slice _ _ _, .int .i64 _]) h Try.results39 Try.isAgg31 Try.sizeOf31 rfl rfl rfl ?_
        -- path TTT
        exact .inl ⟨hok, hty, c13, rfl, h.to⟩
      · skip
        refine W.seq ?_
        refine W.region ?_
        refine WL.val run_move rfl rfl ?_
        refine WL.val (run_nilCheck rfl) rfl rfl ?_
        refine WL.val (run_fieldAddr 8 Try.underlying93 rfl Try.sizeOf3 rfl rfl) rfl rfl ?_
        refine WL.val (run_load1 Try.isAgg3 rfl (h.cellB rfl)) rfl rfl ?_
        refine WL.val run_move rfl rfl ?_
        refine WL.dec (run_eql rfl rfl) rfl rfl (fun c47 => ?_) (fun c47 => ?_)
        · skip
          refine WL.val run_move rfl rfl ?_
          refine WL.val run_move rfl rfl ?_
          refine WL.val (run_nilCheck rfl) rfl rfl ?_
          refine WL.val (run_fieldAddr 9 Try.underlying93 rfl Try.sizeOf3 rfl rfl) rfl rfl ?_
          refine WL.val (run_load1 Try.isAgg3 rfl (h.cellB rfl)) rfl rfl ?_
          refine WL.val run_move rfl rfl ?_
          refine WL.val (run_eql rfl rfl) rfl rfl ?_
          refine WL.val (run_pickT rfl) rfl rfl ?_
          refine WL.val run_assign rfl rfl ?_
          refine WL.nil ?_
          refine W.condIf rfl (fun c18 => ?_) (fun c18 => ?_)
          · skip
            refine W.seq ?_
            refine W.region ?_
            refine WL.eff (eff_call Try.call60 (good_ok h)) rfl rfl ?_
            rintro _ w ⟨rfl, h⟩
            refine WL.eff (eff_storeN (vs := [.int .i64 _, .int .i64 _, .int .i64 _, .slice _ _ _, .int .i64 _]) h Try.sizeOf31 rfl rfl rfl rfl rfl (fun k _ _ => free0 k)) rfl rfl ?_
            rintro _ w h
            try simp only [splice, List.take_zero, List.take_succ_cons, List.take_nil, List.drop_succ_cons, List.drop_zero, List.drop_nil, List.nil_append, List.cons_append, List.append_nil, List.length_cons, List.length_nil, Nat.zero_add, Nat.reduceAdd] at h
            refine WL.nil ?_
            refine W.ret ?_
            refine bodyQ.rcB (vs := [.int .i64 _, .int .i64 _, .int .i64 _, .slice _ _ _, .int .i64 _]) h Try.results39 Try.isAgg31 Try.sizeOf31 rfl rfl rfl ?_
            -- path TTFTT
            exact .inr ⟨fun hh => c13 hh.2.2, 0, 0, 0, rfl, (by rintro (hh | hh); exact (hh.2.2 ⟨by omega, by omega⟩).elim; exact (hh.1 hok).elim), h.to⟩
          · skip
            refine W.skip ?_
            refine W.seq ?_
            refine W.region ?_
            refine WL.eff (eff_call Try.call58 (conflict_ok h)) rfl rfl ?_
            rintro _ w ⟨rfl, h⟩
            refine WL.eff (eff_storeN (vs := [.int .i64 _, .int .i64 _, .int .i64 _, .slice _ _ _, .int .i64 _]) h Try.sizeOf31 rfl rfl rfl rfl rfl (fun k _ _ => free0 k)) rfl rfl ?_
            rintro _ w h
            try simp only [splice, List.take_zero, List.take_succ_cons, List.take_nil, List.drop_succ_cons, List.drop_zero, List.drop_nil, List.nil_append, List.cons_append, List.append_nil, List.length_cons, List.length_nil, Nat.zero_add, Nat.reduceAdd] at h
            refine WL.nil ?_
            refine W.ret ?_
            refine bodyQ.rcB (vs := [.int .i64 _, .int .i64 _, .int .i64 _, .slice _ _ _, .int .i64 _]) h Try.results39 Try.isAgg31 Try.sizeOf31 rfl rfl rfl ?_
            -- path TTFTF
            exact .inr ⟨fun hh => c13 hh.2.2, 24, 0, 0, rfl, fun _ => rfl, h.to⟩
        · skip
          refine WL.val run_move rfl rfl ?_
          refine WL.skip rfl rfl ?_
          refine WL.skip rfl rfl ?_
          refine WL.skip rfl rfl ?_
          refine WL.skip rfl rfl ?_
          refine WL.skip rfl rfl ?_
          refine WL.skip rfl rfl ?_
          refine WL.val (run_pickF rfl) rfl rfl ?_
          refine WL.val run_assign rfl rfl ?_
          refine WL.nil ?_
          refine W.condF rfl ?_
          refine W.skip ?_
          refine W.seq ?_
          refine W.region ?_
          refine WL.eff (eff_call Try.call58 (conflict_ok h)) rfl rfl ?_
          rintro _ w ⟨rfl, h⟩
          refine WL.eff (eff_storeN (vs := [.int .i64 _, .int .i64 _, .int .i64 _, .slice _ _ _, .int .i64 _]) h Try.sizeOf31 rfl rfl rfl rfl rfl (fun k _ _ => free0 k)) rfl rfl ?_
          rintro _ w h
          try simp only [splice, List.take_zero, List.take_succ_cons, List.take_nil, List.drop_succ_cons, List.drop_zero, List.drop_nil, List.nil_append, List.cons_append, List.append_nil, List.length_cons, List.length_nil, Nat.zero_add, Nat.reduceAdd] at h
          refine WL.nil ?_
          refine W.ret ?_
          refine bodyQ.rcB (vs := [.int .i64 _, .int .i64 _, .int .i64 _, .slice _ _ _, .int .i64 _]) h Try.results39 Try.isAgg31 Try.sizeOf31 rfl rfl rfl ?_
          -- path TTFF
          exact .inr ⟨fun hh => c13 hh.2.2, 24, 0, 0, rfl, fun _ => rfl, h.to⟩
    · skip
      refine WL.val (run_not rfl) rfl rfl ?_
      refine WL.val run_assign rfl rfl ?_
      refine WL.nil ?_
      refine W.condT rfl ?_
      refine W.seq ?_
      refine W.region ?_
      refine WL.eff (eff_call Try.call57 (field_ok h)) rfl rfl ?_
      rintro _ w ⟨rfl, h⟩
      refine WL.eff (eff_storeN (vs := [.int .i64 _, .int .i64 _, .int .i64 _, .slice _ _ _, .int .i64 _]) h Try.sizeOf31 rfl rfl rfl rfl rfl (fun k _ _ => free0 k)) rfl rfl ?_
      rintro _ w h
      try simp only [splice, List.take_zero, List.take_succ_cons, List.take_nil, List.drop_succ_cons, List.drop_zero, List.drop_nil, List.nil_append, List.cons_append, List.append_nil, List.length_cons, List.length_nil, Nat.zero_add, Nat.reduceAdd] at h
      refine WL.nil ?_
      refine W.ret ?_
      refine bodyQ.rcB (vs := [.int .i64 _, .int .i64 _, .int .i64 _, .slice _ _ _, .int .i64 _]) h Try.results39 Try.isAgg31 Try.sizeOf31 rfl rfl rfl ?_
      -- path TF
      exact .inr ⟨fun hh => (by rw [hty] at hh; cases hh.2.1), 2, 5, 9216, rfl, (by rintro (hh | hh); rw [hty] at hh; cases hh.2.1; exact (hh.1 hok).elim), h.to⟩
  · skip
    refine WL.val run_move rfl rfl ?_
    refine WL.val (run_extract rfl rfl) rfl rfl ?_
    refine WL.val (run_extract rfl rfl) rfl rfl ?_
    refine WL.eff (eff_alloc h Try.zeroValue31 rfl) rfl rfl ?_
    rintro _ w ⟨b9, rfl, h⟩
    refine WL.eff (eff_storeN (vs := [.int .i64 _, .int .i64 _, .int .i64 _, .slice _ _ _, .int .i64 _]) h Try.sizeOf31 rfl rfl rfl rfl rfl (fun k _ _ => free0 k)) rfl rfl ?_
    rintro _ w h
    try simp only [splice, List.take_zero, List.take_succ_cons, List.take_nil, List.drop_succ_cons, List.drop_zero, List.drop_nil, List.nil_append, List.cons_append, List.append_nil, List.length_cons, List.length_nil, Nat.zero_add, Nat.reduceAdd] at h
    refine WL.val run_assign rfl rfl ?_
    refine WL.nil ?_
    refine W.seq ?_
    refine W.region ?_
    refine WL.val run_move rfl rfl ?_
    refine WL.val (run_not rfl) rfl rfl ?_
    refine WL.nil ?_
    refine W.condT rfl ?_
    refine W.seq ?_
    refine W.region ?_
    refine WL.val (run_loadB (vs := [.int .i64 _, .int .i64 _, .int .i64 _, .slice _ _ _, .int .i64 _]) h Try.isAgg31 Try.sizeOf31 rfl rfl rfl) rfl rfl ?_
    refine WL.eff (eff_storeN (vs := [.int .i64 _, .int .i64 _, .int .i64 _, .slice _ _ _, .int .i64 _]) h Try.sizeOf31 rfl rfl rfl rfl rfl (fun k _ _ => free0 k)) rfl rfl ?_
    rintro _ w h
    try simp only [splice, List.take_zero, List.take_succ_cons, List.take_nil, List.drop_succ_cons, List.drop_zero, List.drop_nil, List.nil_append, List.cons_append, List.append_nil, List.length_cons, List.length_nil, Nat.zero_add, Nat.reduceAdd] at h
    refine WL.nil ?_
    refine W.ret ?_
    refine bodyQ.rcB (vs := [.int .i64 _, .int .i64 _, .int .i64 _, .slice _ _ _, .int .i64 _]) h Try.results39 Try.isAgg31 Try.sizeOf31 rfl rfl rfl ?_
    -- path F
    exact .inr ⟨fun hh => hno hh.1, s, k, c, rfl, (by rintro (hh | hh); exact (hno hh.1).elim; exact hs24 hh.2.1 hh.2.2), h.to⟩

theorem release_ok {b : Nat} {t : Tb} {hh key typ : Int} (h : On W0 (blk b t.cells 93 :: L) w) : Calls Try.prog 40 #[.pointer (some ⟨b, 0, none⟩), .int .i64 hh, .int .u64 key, .int .i64 typ] w (Ret fun v w' => (okM t hh key ∧ typedB typ = true ∧ t.hold = hh ∧ t.typ = typ ∧ ∃ a, v = .tuple #[rep 0 0 0, .slice a (t.told hh).length (t.told hh).length] ∧ On W0 (Own 2 (.slice a (t.told hh).length (t.told hh).length) (t.told hh).length (notesV 10756 (t.told hh)) :: blk b t.freed.cells 93 :: L) w') ∨ (¬ (okM t hh key ∧ typedB typ = true ∧ t.hold = hh ∧ t.typ = typ) ∧ ∃ s k c, v = .tuple #[rep s k c, .slice none 0 0] ∧ On W0 (blk b t.cells 93 :: L) w')) := by
  refine enter Try.func40 rfl Try.ntmps40 rfl ?_
  refine W.seq ?_
  refine W.region ?_
  refine WL.eff (eff_alloc h Try.zeroValue31 rfl) rfl rfl ?_
  rintro _ w ⟨b8, rfl, h⟩
  refine WL.val run_assign rfl rfl ?_
  refine WL.nil ?_
  refine W.seq ?_
  refine W.seq ?_
  refine W.region ?_
  refine WL.val run_move rfl rfl ?_
  refine WL.val run_move rfl rfl ?_
  refine WL.val run_move rfl rfl ?_
  refine WL.eff (eff_call Try.call61 (may_ok (h.fetch (blk b t.cells 93)))) rfl rfl ?_
  rintro _ w ⟨hv, h⟩
  rcases hv with ⟨hok, rfl⟩ | ⟨hno, s, k, c, rfl, hs24⟩
  · skip
    refine WL.val run_move rfl rfl ?_
    refine WL.val (run_extract rfl rfl) rfl rfl ?_
    refine WL.val (run_extract rfl rfl) rfl rfl ?_
    refine WL.eff (eff_alloc h Try.zeroValue31 rfl) rfl rfl ?_
    rintro _ w ⟨b10, rfl, h⟩
    refine WL.eff (eff_storeN (vs := [.int .i64 _, .int .i64 _, .int .i64 _, .slice _ _ _, .int .i64 _]) h Try.sizeOf31 rfl rfl rfl rfl rfl (fun k _ _ => free0 k)) rfl rfl ?_
    rintro _ w h
    try simp only [splice, List.take_zero, List.take_succ_cons, List.take_nil, List.drop_succ_cons, List.drop_zero, List.drop_nil, List.nil_append, List.cons_append, List.append_nil, List.length_cons, List.length_nil, Nat.zero_add, Nat.reduceAdd] at h
    refine WL.val run_assign rfl rfl ?_
    refine WL.nil ?_
    refine W.seq ?_
    refine W.region ?_
    refine WL.val run_move rfl rfl ?_
    refine WL.val (run_not rfl) rfl rfl ?_
    refine WL.nil ?_
    refine W.condF rfl ?_
    refine W.skip ?_
    refine W.seq ?_
    refine W.block ?_
    refine W.seq ?_
    refine W.region ?_
    refine WL.val run_move rfl rfl ?_
    refine WL.eff (eff_call Try.call62 (typed_ok h)) rfl rfl ?_
    rintro _ w ⟨hv, h⟩
    have hcs := Bool.eq_false_or_eq_true (typedB typ)
    rcases hcs with hty | hty <;> (rw [hty] at hv; subst hv)
    · skip
      refine WL.val (run_not rfl) rfl rfl ?_
      refine WL.val run_assign rfl rfl ?_
      refine WL.nil ?_
      refine W.condF rfl ?_
      refine W.seq ?_
      refine W.region ?_
      refine WL.val run_move rfl rfl ?_
      refine WL.val (run_nilCheck rfl) rfl rfl ?_
      refine WL.val (run_fieldAddr 8 Try.underlying93 rfl Try.sizeOf3 rfl rfl) rfl rfl ?_
      refine WL.val (run_load1 Try.isAgg3 rfl (h.cellB rfl)) rfl rfl ?_
      refine WL.val run_move rfl rfl ?_
      refine WL.val (run_neq rfl rfl) rfl rfl ?_
      refine WL.val run_assign rfl rfl ?_
      refine WL.nil ?_
      refine W.condIf rfl (fun c13 => ?_) (fun c13 => ?_)
      · skip
        refine W.seq ?_
        refine W.region ?_
        refine WL.eff (eff_call Try.call60 (good_ok h)) rfl rfl ?_
        rintro _ w ⟨rfl, h⟩
        refine WL.eff (eff_storeN (vs := [.int .i64 _, .int .i64 _, .int .i64 _, .slice _ _ _, .int .i64 _]) h Try.sizeOf31 rfl rfl rfl rfl rfl (fun k _ _ => free0 k)) rfl rfl ?_
        rintro _ w h
        try simp only [splice, List.take_zero, List.take_succ_cons, List.take_nil, List.drop_succ_cons, List.drop_zero, List.drop_nil, List.nil_append, List.cons_append, List.append_nil, List.length_cons, List.length_nil, Nat.zero_add, Nat.reduceAdd] at h
        refine WL.val run_assign rfl rfl ?_
        refine WL.nil ?_
        refine W.ret ?_
        refine bodyQ.rctB (vs := [.int .i64 _, .int .i64 _, .int .i64 _, .slice _ _ _, .int .i64 _]) (v2 := .slice _ _ _) h Try.results40 Try.isAgg31 Try.sizeOf31 rfl rfl rfl rfl ?_
        -- path TTT
        exact .inr ⟨fun hh => c13 hh.2.2.1, 0, 0, 0, rfl, h.to⟩
      · skip
        refine W.seq ?_
        refine W.region ?_
        refine WL.val run_move rfl rfl ?_
        refine WL.val (run_nilCheck rfl) rfl rfl ?_
        refine WL.val (run_fieldAddr 9 Try.underlying93 rfl Try.sizeOf3 rfl rfl) rfl rfl ?_
        refine WL.val (run_load1 Try.isAgg3 rfl (h.cellB rfl)) rfl rfl ?_
        refine WL.val run_move rfl rfl ?_
        refine WL.val (run_neq rfl rfl) rfl rfl ?_
        refine WL.val run_assign rfl rfl ?_
        refine WL.nil ?_
        refine W.condIf rfl (fun c17 => ?_) (fun c17 => ?_)
        · skip
          refine W.seq ?_
          refine W.region ?_
          refine WL.eff (eff_call Try.call19 (wrong_ok h)) rfl rfl ?_
          rintro _ w ⟨rfl, h⟩
          refine WL.eff (eff_storeN (vs := [.int .i64 _, .int .i64 _, .int .i64 _, .slice _ _ _, .int .i64 _]) h Try.sizeOf31 rfl rfl rfl rfl rfl (fun k _ _ => free0 k)) rfl rfl ?_
          rintro _ w h
          try simp only [splice, List.take_zero, List.take_succ_cons, List.take_nil, List.drop_succ_cons, List.drop_zero, List.drop_nil, List.nil_append, List.cons_append, List.append_nil, List.length_cons, List.length_nil, Nat.zero_add, Nat.reduceAdd] at h
          refine WL.val run_assign rfl rfl ?_
          refine WL.nil ?_
          refine W.ret ?_
          refine bodyQ.rctB (vs := [.int .i64 _, .int .i64 _, .int .i64 _, .slice _ _ _, .int .i64 _]) (v2 := .slice _ _ _) h Try.results40 Try.isAgg31 Try.sizeOf31 rfl rfl rfl rfl ?_
          -- path TTFT
          exact .inr ⟨fun hh => c17 hh.2.2.2, 2, 5, 9732, rfl, h.to⟩
        · skip
          refine W.skip ?_
          refine W.seq ?_
          refine W.region ?_
          refine WL.eff (eff_call Try.call60 (good_ok h)) rfl rfl ?_
          rintro _ w ⟨rfl, h⟩
          refine WL.val run_move rfl rfl ?_
          refine WL.val run_move rfl rfl ?_
          refine WL.eff (eff_call Try.call59 (drop_ok (h.fetch (blk b t.cells 93)))) rfl rfl ?_
          rintro _ w ⟨ad, rfl, h⟩
          refine WL.eff (eff_storeN (vs := [.int .i64 _, .int .i64 _, .int .i64 _, .slice _ _ _, .int .i64 _]) h Try.sizeOf31 rfl rfl rfl rfl rfl (fun k _ _ => free0 k)) rfl rfl ?_
          rintro _ w h
          try simp only [splice, List.take_zero, List.take_succ_cons, List.take_nil, List.drop_succ_cons, List.drop_zero, List.drop_nil, List.nil_append, List.cons_append, List.append_nil, List.length_cons, List.length_nil, Nat.zero_add, Nat.reduceAdd] at h
          refine WL.val run_assign rfl rfl ?_
          refine WL.nil ?_
          refine W.ret ?_
          refine bodyQ.rctB (vs := [.int .i64 _, .int .i64 _, .int .i64 _, .slice _ _ _, .int .i64 _]) (v2 := .slice _ _ _) h Try.results40 Try.isAgg31 Try.sizeOf31 rfl rfl rfl rfl ?_
          -- path TTFF
          exact .inl ⟨hok, hty, by omega, by omega, ad, rfl, h.to⟩
    · skip
      refine WL.val (run_not rfl) rfl rfl ?_
      refine WL.val run_assign rfl rfl ?_
      refine WL.nil ?_
      refine W.condT rfl ?_
      refine W.seq ?_
      refine W.region ?_
      refine WL.eff (eff_call Try.call57 (field_ok h)) rfl rfl ?_
      rintro _ w ⟨rfl, h⟩
      refine WL.eff (eff_storeN (vs := [.int .i64 _, .int .i64 _, .int .i64 _, .slice _ _ _, .int .i64 _]) h Try.sizeOf31 rfl rfl rfl rfl rfl (fun k _ _ => free0 k)) rfl rfl ?_
      rintro _ w h
      try simp only [splice, List.take_zero, List.take_succ_cons, List.take_nil, List.drop_succ_cons, List.drop_zero, List.drop_nil, List.nil_append, List.cons_append, List.append_nil, List.length_cons, List.length_nil, Nat.zero_add, Nat.reduceAdd] at h
      refine WL.val run_assign rfl rfl ?_
      refine WL.nil ?_
      refine W.ret ?_
      refine bodyQ.rctB (vs := [.int .i64 _, .int .i64 _, .int .i64 _, .slice _ _ _, .int .i64 _]) (v2 := .slice _ _ _) h Try.results40 Try.isAgg31 Try.sizeOf31 rfl rfl rfl rfl ?_
      -- path TF
      exact .inr ⟨fun hh => (by rw [hty] at hh; cases hh.2.1), 2, 5, 9216, rfl, h.to⟩
  · skip
    refine WL.val run_move rfl rfl ?_
    refine WL.val (run_extract rfl rfl) rfl rfl ?_
    refine WL.val (run_extract rfl rfl) rfl rfl ?_
    refine WL.eff (eff_alloc h Try.zeroValue31 rfl) rfl rfl ?_
    rintro _ w ⟨b10, rfl, h⟩
    refine WL.eff (eff_storeN (vs := [.int .i64 _, .int .i64 _, .int .i64 _, .slice _ _ _, .int .i64 _]) h Try.sizeOf31 rfl rfl rfl rfl rfl (fun k _ _ => free0 k)) rfl rfl ?_
    rintro _ w h
    try simp only [splice, List.take_zero, List.take_succ_cons, List.take_nil, List.drop_succ_cons, List.drop_zero, List.drop_nil, List.nil_append, List.cons_append, List.append_nil, List.length_cons, List.length_nil, Nat.zero_add, Nat.reduceAdd] at h
    refine WL.val run_assign rfl rfl ?_
    refine WL.nil ?_
    refine W.seq ?_
    refine W.region ?_
    refine WL.val run_move rfl rfl ?_
    refine WL.val (run_not rfl) rfl rfl ?_
    refine WL.nil ?_
    refine W.condT rfl ?_
    refine W.seq ?_
    refine W.region ?_
    refine WL.val (run_loadB (vs := [.int .i64 _, .int .i64 _, .int .i64 _, .slice _ _ _, .int .i64 _]) h Try.isAgg31 Try.sizeOf31 rfl rfl rfl) rfl rfl ?_
    refine WL.eff (eff_storeN (vs := [.int .i64 _, .int .i64 _, .int .i64 _, .slice _ _ _, .int .i64 _]) h Try.sizeOf31 rfl rfl rfl rfl rfl (fun k _ _ => free0 k)) rfl rfl ?_
    rintro _ w h
    try simp only [splice, List.take_zero, List.take_succ_cons, List.take_nil, List.drop_succ_cons, List.drop_zero, List.drop_nil, List.nil_append, List.cons_append, List.append_nil, List.length_cons, List.length_nil, Nat.zero_add, Nat.reduceAdd] at h
    refine WL.val run_assign rfl rfl ?_
    refine WL.nil ?_
    refine W.ret ?_
    refine bodyQ.rctB (vs := [.int .i64 _, .int .i64 _, .int .i64 _, .slice _ _ _, .int .i64 _]) (v2 := .slice _ _ _) h Try.results40 Try.isAgg31 Try.sizeOf31 rfl rfl rfl rfl ?_
    -- path F
    exact .inr ⟨fun hh => hno hh.1, s, k, c, rfl, h.to⟩

theorem clear_ok {b : Nat} {t : Tb} {hh key : Int} (h : On W0 (blk b t.cells 93 :: L) w) : Calls Try.prog 41 #[.pointer (some ⟨b, 0, none⟩), .int .i64 hh, .int .u64 key] w (Ret fun v w' => (okM t hh key ∧ ∃ a, v = .tuple #[rep 0 0 0, .slice a (hostsN t.K hh (fun _ => true) 8).length (hostsN t.K hh (fun _ => true) 8).length] ∧ On W0 (Own 2 (.slice a (hostsN t.K hh (fun _ => true) 8).length (hostsN t.K hh (fun _ => true) 8).length) (hostsN t.K hh (fun _ => true) 8).length (notesV 10755 (hostsN t.K hh (fun _ => true) 8)) :: blk b t.cleared.cells 93 :: L) w') ∨ (¬ okM t hh key ∧ ∃ s k c, v = .tuple #[rep s k c, .slice none 0 0] ∧ (0 ≤ hh → hh < 8 → s = 24) ∧ On W0 (blk b t.cells 93 :: L) w')) := by
  refine enter Try.func41 rfl Try.ntmps41 rfl ?_
  refine W.seq ?_
  refine W.region ?_
  refine WL.eff (eff_alloc h Try.zeroValue31 rfl) rfl rfl ?_
  rintro _ w ⟨b6, rfl, h⟩
  refine WL.val run_assign rfl rfl ?_
  refine WL.nil ?_
  refine W.seq ?_
  refine W.seq ?_
  refine W.region ?_
  refine WL.val run_move rfl rfl ?_
  refine WL.val run_move rfl rfl ?_
  refine WL.val run_move rfl rfl ?_
  refine WL.eff (eff_call Try.call61 (may_ok (h.fetch (blk b t.cells 93)))) rfl rfl ?_
  rintro _ w ⟨hv, h⟩
  rcases hv with ⟨hok, rfl⟩ | ⟨hno, s, k, c, rfl, hs24⟩
  · skip
    refine WL.val run_move rfl rfl ?_
    refine WL.val (run_extract rfl rfl) rfl rfl ?_
    refine WL.val (run_extract rfl rfl) rfl rfl ?_
    refine WL.eff (eff_alloc h Try.zeroValue31 rfl) rfl rfl ?_
    rintro _ w ⟨b8, rfl, h⟩
    refine WL.eff (eff_storeN (vs := [.int .i64 _, .int .i64 _, .int .i64 _, .slice _ _ _, .int .i64 _]) h Try.sizeOf31 rfl rfl rfl rfl rfl (fun k _ _ => free0 k)) rfl rfl ?_
    rintro _ w h
    try simp only [splice, List.take_zero, List.take_succ_cons, List.take_nil, List.drop_succ_cons, List.drop_zero, List.drop_nil, List.nil_append, List.cons_append, List.append_nil, List.length_cons, List.length_nil, Nat.zero_add, Nat.reduceAdd] at h
    refine WL.val run_assign rfl rfl ?_
    refine WL.nil ?_
    refine W.seq ?_
    refine W.region ?_
    refine WL.val run_move rfl rfl ?_
    refine WL.val (run_not rfl) rfl rfl ?_
    refine WL.nil ?_
    refine W.condF rfl ?_
    refine W.skip ?_
    refine W.seq ?_
    refine W.region ?_
    refine WL.val run_move rfl rfl ?_
    refine WL.val run_move rfl rfl ?_
    refine WL.eff (eff_call Try.call63 (others_ok (t := t) (b := b) (hh := hh) (code := 10755) (f := 64) (caps := #[]) (p := (fun _ => true)) (h.fetch (blk b t.cells 93)) Try.call64 (fun k A w h => every_ok h))) rfl rfl ?_
    rintro _ w ⟨ad, rfl, h⟩
    refine WL.val run_assign rfl rfl ?_
    refine WL.nil ?_
    refine W.seq ?_
    refine W.region ?_
    refine WL.val run_move rfl rfl ?_
    refine WL.val (run_nilCheck rfl) rfl rfl ?_
    refine WL.val (run_fieldAddr 10 Try.underlying93 rfl Try.sizeOf91 rfl rfl) rfl rfl ?_
    refine WL.val (run_load1 Try.isAgg91 rfl (h.cellB rfl)) rfl rfl ?_
    refine WL.val (run_addW rfl rfl) rfl rfl ?_
    refine WL.val (run_nilCheck rfl) rfl rfl ?_
    refine WL.val (run_fieldAddr 10 Try.underlying93 rfl Try.sizeOf91 rfl rfl) rfl rfl ?_
    refine WL.eff (eff_store (v := .int .u32 _) h Try.sizeOf91 rfl rfl rfl rfl rfl) rfl rfl ?_
    rintro _ w h
    try simp only [Nat.zero_add, Nat.add_zero, List.set_cons_zero, List.set_cons_succ] at h
    refine WL.nil ?_
    refine W.seq ?_
    refine W.region ?_
    refine WL.val run_move rfl rfl ?_
    refine WL.val run_move rfl rfl ?_
    refine WL.val run_move rfl rfl ?_
    refine WL.val (run_buildA (out := [.int .u64 _, .int .u64 _, .int .u64 _, .int .u64 _, .int .u64 _, .int .u64 _, .int .u64 _, .int .u64 _]) Try.underlying90 Try.sizeOf24 Try.zeroValue90 rfl rfl (by simp) (trivial) rfl) rfl rfl ?_
    refine WL.val (run_nilCheck rfl) rfl rfl ?_
    refine WL.val (run_fieldAddr 0 Try.underlying93 rfl Try.sizeOf90 rfl rfl) rfl rfl ?_
    refine WL.eff (eff_storeN (vs := keysV fun _ => 0) h Try.sizeOf90 rfl rfl rfl rfl rfl (fun k _ _ => free0 k)) rfl rfl ?_
    rintro _ w h
    refine WL.val (run_nilCheck rfl) rfl rfl ?_
    refine WL.val (run_fieldAddr 8 Try.underlying93 rfl Try.sizeOf3 rfl rfl) rfl rfl ?_
    refine WL.eff (eff_store (v := .int .i64 _) h Try.sizeOf3 rfl rfl rfl rfl rfl) rfl rfl ?_
    rintro _ w h
    try simp only [Nat.zero_add, Nat.add_zero, List.set_cons_zero, List.set_cons_succ] at h
    refine WL.val (run_nilCheck rfl) rfl rfl ?_
    refine WL.val (run_fieldAddr 9 Try.underlying93 rfl Try.sizeOf3 rfl rfl) rfl rfl ?_
    refine WL.eff (eff_store (v := .int .i64 _) h Try.sizeOf3 rfl rfl rfl rfl rfl) rfl rfl ?_
    rintro _ w h
    try simp only [Nat.zero_add, Nat.add_zero, List.set_cons_zero, List.set_cons_succ] at h
    refine WL.nil ?_
    refine W.seq ?_
    have h := h.fetch (blk b ((((t.cells.set (0 + 10) (.int .u32 (IntKind.u32.wrap (t.gen + 1)))) |> (splice · (0 + 0) (keysV fun _ => 0))).set (0 + 8) (.int .i64 (-1))).set (0 + 9) (.int .i64 0)) 93)
    have h : On W0 (blk b t.cleared.cells 93 :: _) w := h
    refine W.region ?_
    refine WL.eff (eff_call Try.call60 (good_ok h)) rfl rfl ?_
    rintro _ w ⟨rfl, h⟩
    refine WL.val run_move rfl rfl ?_
    refine WL.eff (eff_storeN (vs := [.int .i64 _, .int .i64 _, .int .i64 _, .slice _ _ _, .int .i64 _]) h Try.sizeOf31 rfl rfl rfl rfl rfl (fun k _ _ => free0 k)) rfl rfl ?_
    rintro _ w h
    try simp only [splice, List.take_zero, List.take_succ_cons, List.take_nil, List.drop_succ_cons, List.drop_zero, List.drop_nil, List.nil_append, List.cons_append, List.append_nil, List.length_cons, List.length_nil, Nat.zero_add, Nat.reduceAdd] at h
    refine WL.val run_assign rfl rfl ?_
    refine WL.nil ?_
    refine W.ret ?_
    refine bodyQ.rctB (vs := [.int .i64 _, .int .i64 _, .int .i64 _, .slice _ _ _, .int .i64 _]) (v2 := .slice _ _ _) h Try.results41 Try.isAgg31 Try.sizeOf31 rfl rfl rfl rfl ?_
    -- path T
    exact .inl ⟨hok, ad, rfl, h.to⟩
  · skip
    refine WL.val run_move rfl rfl ?_
    refine WL.val (run_extract rfl rfl) rfl rfl ?_
    refine WL.val (run_extract rfl rfl) rfl rfl ?_
    refine WL.eff (eff_alloc h Try.zeroValue31 rfl) rfl rfl ?_
    rintro _ w ⟨b8, rfl, h⟩
    refine WL.eff (eff_storeN (vs := [.int .i64 _, .int .i64 _, .int .i64 _, .slice _ _ _, .int .i64 _]) h Try.sizeOf31 rfl rfl rfl rfl rfl (fun k _ _ => free0 k)) rfl rfl ?_
    rintro _ w h
    try simp only [splice, List.take_zero, List.take_succ_cons, List.take_nil, List.drop_succ_cons, List.drop_zero, List.drop_nil, List.nil_append, List.cons_append, List.append_nil, List.length_cons, List.length_nil, Nat.zero_add, Nat.reduceAdd] at h
    refine WL.val run_assign rfl rfl ?_
    refine WL.nil ?_
    refine W.seq ?_
    refine W.region ?_
    refine WL.val run_move rfl rfl ?_
    refine WL.val (run_not rfl) rfl rfl ?_
    refine WL.nil ?_
    refine W.condT rfl ?_
    refine W.seq ?_
    refine W.region ?_
    refine WL.val (run_loadB (vs := [.int .i64 _, .int .i64 _, .int .i64 _, .slice _ _ _, .int .i64 _]) h Try.isAgg31 Try.sizeOf31 rfl rfl rfl) rfl rfl ?_
    refine WL.eff (eff_storeN (vs := [.int .i64 _, .int .i64 _, .int .i64 _, .slice _ _ _, .int .i64 _]) h Try.sizeOf31 rfl rfl rfl rfl rfl (fun k _ _ => free0 k)) rfl rfl ?_
    rintro _ w h
    try simp only [splice, List.take_zero, List.take_succ_cons, List.take_nil, List.drop_succ_cons, List.drop_zero, List.drop_nil, List.nil_append, List.cons_append, List.append_nil, List.length_cons, List.length_nil, Nat.zero_add, Nat.reduceAdd] at h
    refine WL.val run_assign rfl rfl ?_
    refine WL.nil ?_
    refine W.ret ?_
    refine bodyQ.rctB (vs := [.int .i64 _, .int .i64 _, .int .i64 _, .slice _ _ _, .int .i64 _]) (v2 := .slice _ _ _) h Try.results41 Try.isAgg31 Try.sizeOf31 rfl rfl rfl rfl ?_
    -- path F
    exact .inr ⟨hno, s, k, c, rfl, hs24, h.to⟩

theorem holder_ok {b : Nat} {t : Tb} (h : On W0 (blk b t.cells 93 :: L) w) : Calls Try.prog 46 #[.pointer (some ⟨b, 0, none⟩)] w (Ret fun v w' => v = .tuple #[.int .i64 t.hold, .int .i64 t.typ] ∧ On W0 (blk b t.cells 93 :: L) w') := by
  refine enter Try.func46 rfl Try.ntmps46 rfl ?_
  refine W.seq ?_
  refine W.region ?_
  refine WL.val run_assign rfl rfl ?_
  refine WL.val run_assign rfl rfl ?_
  refine WL.nil ?_
  refine W.seq ?_
  refine W.draw Try.follows h (fun w h => ?_)
  refine WT.pure 0 rfl (by kernel_rfl) (fun w' => run_move) rfl rfl ?_
  refine WT.pure 1 rfl (by kernel_rfl) (fun w' => (run_nilCheck rfl)) rfl rfl ?_
  refine WT.pure 2 rfl (by kernel_rfl) (fun w' => (run_fieldAddr 8 Try.underlying93 rfl Try.sizeOf3 rfl rfl)) rfl rfl ?_
  refine WT.load1 3 rfl (by kernel_rfl) Try.isAgg3 rfl (h.cellB rfl) rfl rfl ?_
  refine WT.pure 4 rfl (by kernel_rfl) (fun w' => run_move) rfl rfl ?_
  refine WT.pure 5 rfl (by kernel_rfl) (fun w' => (run_nilCheck rfl)) rfl rfl ?_
  refine WT.pure 6 rfl (by kernel_rfl) (fun w' => (run_fieldAddr 9 Try.underlying93 rfl Try.sizeOf3 rfl rfl)) rfl rfl ?_
  refine WT.load1 7 rfl (by kernel_rfl) Try.isAgg3 rfl (h.cellB rfl) rfl rfl ?_
  refine WT.pure 8 rfl (by kernel_rfl) (fun w' => run_assign) rfl rfl ?_
  refine WT.pure 9 rfl (by kernel_rfl) (fun w' => run_assign) rfl rfl ?_
  refine WT.done (by kernel_rfl) ?_
  refine W.ret ?_
  refine bodyQ.r2 (v1 := .int .i64 _) (v2 := .int .i64 _) Try.results46 rfl rfl ?_
  -- path 
  exact ⟨rfl, h⟩

theorem generation_ok {b : Nat} {t : Tb} (h : On W0 (blk b t.cells 93 :: L) w) : Calls Try.prog 44 #[.pointer (some ⟨b, 0, none⟩)] w (Ret fun v w' => v = .int .u32 t.gen ∧ On W0 (blk b t.cells 93 :: L) w') := by
  refine enter Try.func44 rfl Try.ntmps44 rfl ?_
  refine W.seq ?_
  refine W.region ?_
  refine WL.val run_assign rfl rfl ?_
  refine WL.nil ?_
  refine W.seq ?_
  refine W.region ?_
  refine WL.val run_move rfl rfl ?_
  refine WL.val (run_nilCheck rfl) rfl rfl ?_
  refine WL.val (run_fieldAddr 10 Try.underlying93 rfl Try.sizeOf91 rfl rfl) rfl rfl ?_
  refine WL.val (run_load1 Try.isAgg91 rfl (h.cellB rfl)) rfl rfl ?_
  refine WL.val run_assign rfl rfl ?_
  refine WL.nil ?_
  refine W.ret ?_
  refine bodyQ.r1 (v := .int .u32 _) Try.results44 rfl ?_
  -- path 
  exact ⟨rfl, h⟩

theorem key_ok {b : Nat} {t : Tb} {i : Nat} (hi : i < 8) (h : On W0 (blk b t.cells 93 :: L) w) : Calls Try.prog 48 #[.pointer (some ⟨b, 0, none⟩), .int .i64 (i : Int)] w (Ret fun v w' => v = .int .u64 (t.K i) ∧ On W0 (blk b t.cells 93 :: L) w') := by
  refine enter Try.func48 rfl Try.ntmps48 rfl ?_
  refine W.seq ?_
  refine W.region ?_
  refine WL.val run_assign rfl rfl ?_
  refine WL.nil ?_
  refine W.seq ?_
  refine W.seq ?_
  refine W.region ?_
  refine WL.val run_move rfl rfl ?_
  refine WL.eff (eff_call Try.call32 (host_ok h)) rfl rfl ?_
  rintro _ w ⟨hv, h⟩
  rw [hostB_iff.2 ⟨by omega, by omega⟩] at hv
  subst hv
  refine WL.val (run_not rfl) rfl rfl ?_
  refine WL.nil ?_
  refine W.condF rfl ?_
  refine W.skip ?_
  refine W.seq ?_
  refine W.region ?_
  refine WL.val run_move rfl rfl ?_
  refine WL.val run_move rfl rfl ?_
  refine WL.val (run_nilCheck rfl) rfl rfl ?_
  refine WL.val (run_fieldAddr 0 Try.underlying93 rfl Try.sizeOf90 rfl rfl) rfl rfl ?_
  refine WL.val (run_indexAddrArr Try.underlying90 Try.sizeOf24 rfl rfl (by omega) (by omega)) rfl rfl ?_
  refine WL.val (run_load1 Try.isAgg24 rfl (h.cellB (cells_at hi))) rfl rfl ?_
  refine WL.val run_assign rfl rfl ?_
  refine WL.nil ?_
  refine W.ret ?_
  refine bodyQ.r1 (v := .int .u64 _) Try.results48 rfl ?_
  -- path 
  exact ⟨rfl, h⟩

theorem rnew_ok (h : On W0 L w) : Calls Try.prog 16 #[] w (Ret fun v w' => ∃ b, v = .pointer (some ⟨b, 0, none⟩) ∧ On W0 (blk b newT.cells 93 :: L) w') := by
  refine enter Try.func16 rfl Try.ntmps16 rfl ?_
  refine W.seq ?_
  refine W.region ?_
  refine WL.val run_assign rfl rfl ?_
  refine WL.nil ?_
  refine W.seq ?_
  refine W.region ?_
  refine WL.val (run_buildS (pl := [(0, 8), (8, 1), (9, 1), (10, 1)]) (out := [.int .u64 _, .int .u64 _, .int .u64 _, .int .u64 _, .int .u64 _, .int .u64 _, .int .u64 _, .int .u64 _, .int .i64 _, .int .i64 _, .int .u32 _]) Try.underlying93 Try.zeroValue93 (fun w => by kernel_rfl) rfl (⟨⟨_, _, rfl, rfl, by decide⟩, trivial⟩) rfl) rfl rfl ?_
  refine WL.eff (eff_box (v := .agg _) (l := [.int .u64 _, .int .u64 _, .int .u64 _, .int .u64 _, .int .u64 _, .int .u64 _, .int .u64 _, .int .u64 _, .int .i64 _, .int .i64 _, .int .u32 _]) h rfl rfl) rfl rfl ?_
  rintro _ w ⟨b2, rfl, h⟩
  refine WL.val run_assign rfl rfl ?_
  refine WL.nil ?_
  refine W.ret ?_
  refine bodyQ.r1 (v := .pointer _) Try.results16 rfl ?_
  -- path 
  exact ⟨_, rfl, h⟩

theorem keys_ok {b : Nat} {t : Tb} (h : On W0 (blk b t.cells 93 :: L) w) : Calls Try.prog 45 #[.pointer (some ⟨b, 0, none⟩)] w (Ret fun v w' => ∃ a n, v = .slice a n n ∧ (n = 0 ↔ ∀ i, i < 8 → t.K i = 0) ∧ On W0 (blk b t.cells 93 :: L) w') := by
  refine enter Try.func45 rfl Try.ntmps45 rfl ?_
  have hmx := maxLen_eq
  refine W.seq ?_
  refine W.region ?_
  refine WL.val run_assign rfl rfl ?_
  refine WL.nil ?_
  refine W.seq ?_
  refine W.region ?_
  refine WL.val run_assign rfl rfl ?_
  refine WL.nil ?_
  refine W.seq ?_
  refine W.seq ?_
  refine W.region ?_
  refine WL.val run_move rfl rfl ?_
  refine WL.val (run_nilCheck rfl) rfl rfl ?_
  refine WL.val (run_fieldAddr 0 Try.underlying93 rfl Try.sizeOf90 rfl rfl) rfl rfl ?_
  refine WL.val (run_loadB (vs := [.int .u64 _, .int .u64 _, .int .u64 _, .int .u64 _, .int .u64 _, .int .u64 _, .int .u64 _, .int .u64 _]) h Try.isAgg90 Try.sizeOf90 rfl rfl rfl) rfl rfl ?_
  refine WL.val run_move rfl rfl ?_
  refine WL.nil ?_
  refine W.block ?_
  refine W.loop (fun (i : Nat) env w => ∃ j a n c xs, env = mkE j [(3, .slice a n c), (9, .agg (keysV t.K).toArray), (10, .int .i64 (i : Int))] ∧ i ≤ 8 ∧ n ≤ i ∧ (n = 0 ↔ ∀ q, q < i → t.K q = 0) ∧ On W0 (Own 1 (.slice a n c) n xs :: blk b t.cells 93 :: L) w) (fun i => 8 - i) (0) ?_ ?_
  · exact ⟨_, none, 0, 0, [], mkE_of ⟨rfl, rfl, rfl, trivial⟩, Nat.zero_le _, Nat.le_refl _, ⟨fun _ q hq => by omega, fun _ => rfl⟩, h.ownEmpty 1 none⟩
  · rintro i env w ⟨j, a, n, c, xs, rfl, hi, hn, hz, h⟩
    refine W.seq ?_
    refine W.region ?_
    refine WL.val (run_lss rfl rfl) rfl rfl ?_
    refine WL.nil ?_
    refine W.seq ?_
    refine W.condIf rfl (fun c6 => ?_) (fun c6 => ?_)
    · skip
      refine W.skip ?_
      refine W.seq ?_
      refine W.block ?_
      refine W.seq ?_
      refine W.region ?_
      refine WL.val (run_indexArr Try.underlying90 Try.sizeOf24 Try.isAgg24 rfl rfl (by omega) (by omega) (keysV_key (i := i) (by omega))) rfl rfl ?_
      refine WL.val run_assign rfl rfl ?_
      refine WL.nil ?_
      refine W.seq ?_
      refine W.region ?_
      refine WL.val run_move rfl rfl ?_
      refine WL.val (run_neq rfl rfl) rfl rfl ?_
      refine WL.nil ?_
      refine W.condIf rfl (fun c12 => ?_) (fun c12 => ?_)
      · skip
        refine W.region ?_
        refine WL.val run_move rfl rfl ?_
        refine WL.val run_move rfl rfl ?_
        refine WL.eff (eff_mkSlice (zl := [.int .u64 0]) (out := [.int .u64 _]) h Try.underlying114 Try.sizeOf24 Try.zeroValue24 (by decide) (by kernel_rfl) rfl rfl (by simp) (⟨⟨_, _, rfl, rfl, by decide⟩, trivial⟩) rfl rfl (by simp [maxLen])) rfl rfl ?_
        rintro _ w ⟨b17, rfl, h⟩
        refine WL.eff (eff_app (c2 := 1) (bytes := 8) h rfl rfl (h.cellsO (v := .slice (some ⟨b17, 0, none⟩) 1 1)) Try.underlying114 rfl rfl rfl rfl rfl (by omega) (by omega) (by simp [Value.oneCell'])) rfl rfl ?_
        rintro _ w ⟨a18, c18, rfl, h⟩
        refine WL.val run_assign rfl rfl ?_
        refine WL.nil ?_
        refine W.region ?_
        refine WL.val (run_incN rfl rfl (by omega)) rfl rfl ?_
        refine WL.val run_move rfl rfl ?_
        refine WL.nil ?_
        -- round, path LTT
        exact ⟨i + 1, ⟨_, a18, n + 1, c18, xs ++ [.int .u64 (t.K i)], mkE_of ⟨rfl, rfl, rfl, trivial⟩, by omega, by omega, ⟨fun hh => by omega, fun hh => absurd (hh i (by omega)) (by omega)⟩, h.to⟩, by show 8 - (i + 1) < 8 - i; omega⟩
      · skip
        refine W.skip ?_
        refine W.region ?_
        refine WL.val (run_incN rfl rfl (by omega)) rfl rfl ?_
        refine WL.val run_move rfl rfl ?_
        refine WL.nil ?_
        -- round, path LTF
        exact ⟨i + 1, ⟨_, a, n, c, xs, mkE_of ⟨rfl, rfl, rfl, trivial⟩, by omega, by omega, ⟨fun hh q hq => (by by_cases hqi : q = i; subst hqi; omega; exact hz.1 hh q (by omega)), fun hh => hz.2 fun q hq => hh q (by omega)⟩, h.to⟩, by show 8 - (i + 1) < 8 - i; omega⟩
    · skip
      refine W.exit ?_
      refine W.seq ?_
      refine W.region ?_
      refine WL.val run_move rfl rfl ?_
      refine WL.eff (eff_call Try.call66 (clip_keys h)) rfl rfl ?_
      rintro _ w ⟨rfl, h⟩
      refine WL.val run_assign rfl rfl ?_
      refine WL.nil ?_
      refine W.ret ?_
      refine bodyQ.r1 (v := .slice _ _ _) Try.results45 rfl ?_
      -- path LF
      have ob_ : i = 8 := by omega
      obtain rfl := ob_
      exact ⟨a, n, rfl, hz, h.to⟩

theorem allows_ok {b : Nat} {t : Tb} {hh kind : Int} (h : On W0 (blk b t.cells 93 :: L) w) : Calls Try.prog 23 #[.pointer (some ⟨b, 0, none⟩), .int .i64 hh, .int .i64 kind] w (Ret fun v w' => (∃ r : Bool, v = .bool r ∧ (r = true ↔ allowP t hh kind)) ∧ On W0 (blk b t.cells 93 :: L) w') := by
  refine enter Try.func23 rfl Try.ntmps23 rfl ?_
  refine W.seq ?_
  refine W.region ?_
  refine WL.val run_assign rfl rfl ?_
  refine WL.nil ?_
  refine W.seq ?_
  refine W.block ?_
  refine W.seq ?_
  refine W.region ?_
  refine WL.val run_move rfl rfl ?_
  refine WL.val (run_nilCheck rfl) rfl rfl ?_
  refine WL.val (run_fieldAddr 8 Try.underlying93 rfl Try.sizeOf3 rfl rfl) rfl rfl ?_
  refine WL.val (run_load1 Try.isAgg3 rfl (h.cellB rfl)) rfl rfl ?_
  refine WL.dec (run_eql rfl rfl) rfl rfl (fun c12 => ?_) (fun c12 => ?_)
  · skip
    refine WL.val run_move rfl rfl ?_
    refine WL.skip rfl rfl ?_
    refine WL.skip rfl rfl ?_
    refine WL.skip rfl rfl ?_
    refine WL.skip rfl rfl ?_
    refine WL.skip rfl rfl ?_
    refine WL.skip rfl rfl ?_
    refine WL.val (run_pickT rfl) rfl rfl ?_
    refine WL.val run_move rfl rfl ?_
    refine WL.skip rfl rfl ?_
    refine WL.skip rfl rfl ?_
    refine WL.skip rfl rfl ?_
    refine WL.skip rfl rfl ?_
    refine WL.skip rfl rfl ?_
    refine WL.skip rfl rfl ?_
    refine WL.skip rfl rfl ?_
    refine WL.skip rfl rfl ?_
    refine WL.skip rfl rfl ?_
    refine WL.skip rfl rfl ?_
    refine WL.skip rfl rfl ?_
    refine WL.skip rfl rfl ?_
    refine WL.skip rfl rfl ?_
    refine WL.skip rfl rfl ?_
    refine WL.skip rfl rfl ?_
    refine WL.val (run_pickT rfl) rfl rfl ?_
    refine WL.val run_assign rfl rfl ?_
    refine WL.nil ?_
    refine W.condT rfl ?_
    refine W.seq ?_
    refine W.region ?_
    refine WL.val run_assign rfl rfl ?_
    refine WL.nil ?_
    refine W.ret ?_
    refine bodyQ.r1 (v := .bool _) Try.results23 rfl ?_
    -- path T
    exact ⟨⟨_, rfl, iff_of_true rfl (.inl (.inl c12))⟩, h⟩
  · skip
    refine WL.val run_move rfl rfl ?_
    refine WL.val run_move rfl rfl ?_
    refine WL.val (run_nilCheck rfl) rfl rfl ?_
    refine WL.val (run_fieldAddr 8 Try.underlying93 rfl Try.sizeOf3 rfl rfl) rfl rfl ?_
    refine WL.val (run_load1 Try.isAgg3 rfl (h.cellB rfl)) rfl rfl ?_
    refine WL.val run_move rfl rfl ?_
    refine WL.dec (run_eql rfl rfl) rfl rfl (fun c19 => ?_) (fun c19 => ?_)
    · skip
      refine WL.val (run_pickF rfl) rfl rfl ?_
      refine WL.val run_move rfl rfl ?_
      refine WL.skip rfl rfl ?_
      refine WL.skip rfl rfl ?_
      refine WL.skip rfl rfl ?_
      refine WL.skip rfl rfl ?_
      refine WL.skip rfl rfl ?_
      refine WL.skip rfl rfl ?_
      refine WL.skip rfl rfl ?_
      refine WL.skip rfl rfl ?_
      refine WL.skip rfl rfl ?_
      refine WL.skip rfl rfl ?_
      refine WL.skip rfl rfl ?_
      refine WL.skip rfl rfl ?_
      refine WL.skip rfl rfl ?_
      refine WL.skip rfl rfl ?_
      refine WL.skip rfl rfl ?_
      refine WL.val (run_pickT rfl) rfl rfl ?_
      refine WL.val run_assign rfl rfl ?_
      refine WL.nil ?_
      refine W.condT rfl ?_
      refine W.seq ?_
      refine W.region ?_
      refine WL.val run_assign rfl rfl ?_
      refine WL.nil ?_
      refine W.ret ?_
      refine bodyQ.r1 (v := .bool _) Try.results23 rfl ?_
      -- path FT
      exact ⟨⟨_, rfl, iff_of_true rfl (.inl (.inr (.inl c19)))⟩, h⟩
    · skip
      refine WL.val (run_pickF rfl) rfl rfl ?_
      refine WL.val run_move rfl rfl ?_
      refine WL.val run_move rfl rfl ?_
      refine WL.eff (eff_call Try.call31 (regs_ok h)) rfl rfl ?_
      rintro _ w ⟨hv, h⟩
      have hcs := Bool.eq_false_or_eq_true (t.regsB)
      rcases hcs with hrg | hrg <;> (rw [hrg] at hv; subst hv)
      · skip
        refine WL.val run_move rfl rfl ?_
        refine WL.val run_move rfl rfl ?_
        refine WL.eff (eff_call Try.call32 (host_ok h)) rfl rfl ?_
        rintro _ w ⟨hv, h⟩
        have hcs := Bool.eq_false_or_eq_true (hostB hh)
        rcases hcs with hb | hb <;> (rw [hb] at hv; subst hv)
        · skip
          refine WL.val (run_pickT rfl) rfl rfl ?_
          refine WL.val run_move rfl rfl ?_
          have ob_ := hostB_iff.1 hb
          obtain ⟨hi0, hi8⟩ := ob_
          have ob_ := Int.eq_ofNat_of_zero_le hi0
          obtain ⟨i, rfl⟩ := ob_
          have hi : i < 8 := by omega
          refine WL.val run_move rfl rfl ?_
          refine WL.val run_move rfl rfl ?_
          refine WL.val (run_nilCheck rfl) rfl rfl ?_
          refine WL.val (run_fieldAddr 0 Try.underlying93 rfl Try.sizeOf90 rfl rfl) rfl rfl ?_
          refine WL.val (run_indexAddrArr Try.underlying90 Try.sizeOf24 rfl rfl (by omega) (by omega)) rfl rfl ?_
          refine WL.val (run_load1 Try.isAgg24 rfl (h.cellB (cells_at hi))) rfl rfl ?_
          refine WL.dec (run_neq rfl rfl) rfl rfl (fun c35 => ?_) (fun c35 => ?_)
          · skip
            refine WL.val (run_pickT rfl) rfl rfl ?_
            refine WL.val (run_pickF rfl) rfl rfl ?_
            refine WL.val run_assign rfl rfl ?_
            refine WL.nil ?_
            refine W.condT rfl ?_
            refine W.seq ?_
            refine W.region ?_
            refine WL.val run_assign rfl rfl ?_
            refine WL.nil ?_
            refine W.ret ?_
            refine bodyQ.r1 (v := .bool _) Try.results23 rfl ?_
            -- path FFTTT
            exact ⟨⟨_, rfl, iff_of_true rfl (.inl (.inr (.inr ⟨hrg, i, rfl, hi, c35⟩)))⟩, h⟩
          · skip
            refine WL.val (run_pickT rfl) rfl rfl ?_
            refine WL.val (run_pickF rfl) rfl rfl ?_
            refine WL.val run_assign rfl rfl ?_
            refine WL.nil ?_
            refine W.condF rfl ?_
            refine W.skip ?_
            refine W.seq ?_
            refine W.seq ?_
            have hal : ¬ alwP t (i : Int) := by
              rintro (h1 | h1 | ⟨h1, j, hj, h2, h3⟩)
              · exact c12 h1
              · exact c19 h1
              · have hij : i = j := Int.ofNat.inj hj
                subst hij
                exact c35 h3
            refine W.region ?_
            refine WL.val run_move rfl rfl ?_
            refine WL.nil ?_
            refine W.block ?_
            refine W.seq ?_
            refine W.seq ?_
            refine W.region ?_
            refine WL.val (run_eql rfl rfl) rfl rfl ?_
            refine WL.val run_assign rfl rfl ?_
            refine WL.nil ?_
            refine W.condIf rfl (fun c10 => ?_) (fun c10 => ?_)
            · skip
              refine W.skip ?_
              refine W.condIf rfl (fun c13 => ?_) (fun c13 => ?_)
              · skip
                refine W.seq ?_
                refine W.region ?_
                refine WL.val run_move rfl rfl ?_
                refine WL.val (run_nilCheck rfl) rfl rfl ?_
                refine WL.val (run_fieldAddr 9 Try.underlying93 rfl Try.sizeOf3 rfl rfl) rfl rfl ?_
                refine WL.val (run_load1 Try.isAgg3 rfl (h.cellB rfl)) rfl rfl ?_
                refine WL.dec (run_eql rfl rfl) rfl rfl (fun c46 => ?_) (fun c46 => ?_)
                · skip
                  refine WL.val run_move rfl rfl ?_
                  refine WL.skip rfl rfl ?_
                  refine WL.skip rfl rfl ?_
                  refine WL.skip rfl rfl ?_
                  refine WL.skip rfl rfl ?_
                  refine WL.skip rfl rfl ?_
                  refine WL.val (run_pickT rfl) rfl rfl ?_
                  refine WL.val run_assign rfl rfl ?_
                  refine WL.nil ?_
                  refine W.ret ?_
                  refine bodyQ.r1 (v := .bool _) Try.results23 rfl ?_
                  -- path FFTTFTTT
                  refine ⟨⟨_, rfl, ?_⟩, h⟩
                  unfold allowP
                  simp only [hal, false_or]
                  first
                  | (exfalso; omega)
                  | (refine iff_of_true trivial ?_; omega)
                  | (refine iff_of_false (by decide) ?_; omega)
                  | (rw [decide_eq_true_iff]; omega)
                · skip
                  refine WL.val run_move rfl rfl ?_
                  refine WL.val run_move rfl rfl ?_
                  refine WL.val (run_nilCheck rfl) rfl rfl ?_
                  refine WL.val (run_fieldAddr 9 Try.underlying93 rfl Try.sizeOf3 rfl rfl) rfl rfl ?_
                  refine WL.val (run_load1 Try.isAgg3 rfl (h.cellB rfl)) rfl rfl ?_
                  refine WL.val (run_eql rfl rfl) rfl rfl ?_
                  refine WL.val (run_pickF rfl) rfl rfl ?_
                  refine WL.val run_assign rfl rfl ?_
                  refine WL.nil ?_
                  refine W.ret ?_
                  refine bodyQ.r1 (v := .bool _) Try.results23 rfl ?_
                  -- path FFTTFTTF
                  refine ⟨⟨_, rfl, ?_⟩, h⟩
                  unfold allowP
                  simp only [hal, false_or]
                  first
                  | (exfalso; omega)
                  | (refine iff_of_true trivial ?_; omega)
                  | (refine iff_of_false (by decide) ?_; omega)
                  | (rw [decide_eq_true_iff]; omega)
              · skip
                refine W.seq ?_
                refine W.seq ?_
                refine W.region ?_
                refine WL.val (run_eql rfl rfl) rfl rfl ?_
                refine WL.val run_assign rfl rfl ?_
                refine WL.nil ?_
                refine W.condIf rfl (fun c17 => ?_) (fun c17 => ?_)
                · skip
                  refine W.skip ?_
                  refine W.condIf rfl (fun c26 => ?_) (fun c26 => ?_)
                  · skip
                    refine W.seq ?_
                    refine W.region ?_
                    refine WL.val run_assign rfl rfl ?_
                    refine WL.nil ?_
                    refine W.ret ?_
                    refine bodyQ.r1 (v := .bool _) Try.results23 rfl ?_
                    -- path FFTTFTFTT
                    refine ⟨⟨_, rfl, ?_⟩, h⟩
                    unfold allowP
                    simp only [hal, false_or]
                    first
                    | (exfalso; omega)
                    | (refine iff_of_true trivial ?_; omega)
                    | (refine iff_of_false (by decide) ?_; omega)
                    | (rw [decide_eq_true_iff]; omega)
                  · skip
                    refine W.skip ?_
                    refine W.seq ?_
                    refine W.region ?_
                    refine WL.val run_assign rfl rfl ?_
                    refine WL.nil ?_
                    refine W.ret ?_
                    refine bodyQ.r1 (v := .bool _) Try.results23 rfl ?_
                    -- path FFTTFTFTF
                    refine ⟨⟨_, rfl, ?_⟩, h⟩
                    unfold allowP
                    simp only [hal, false_or]
                    first
                    | (exfalso; omega)
                    | (refine iff_of_true trivial ?_; omega)
                    | (refine iff_of_false (by decide) ?_; omega)
                    | (rw [decide_eq_true_iff]; omega)
                · skip
                  refine W.seq ?_
                  refine W.region ?_
                  refine WL.val (run_eql rfl rfl) rfl rfl ?_
                  refine WL.val run_assign rfl rfl ?_
                  refine WL.nil ?_
                  refine W.condIf rfl (fun c20 => ?_) (fun c20 => ?_)
                  · skip
                    refine W.skip ?_
                    refine W.condIf rfl (fun c26 => ?_) (fun c26 => ?_)
                    · skip
                      refine W.seq ?_
                      refine W.region ?_
                      refine WL.val run_assign rfl rfl ?_
                      refine WL.nil ?_
                      refine W.ret ?_
                      refine bodyQ.r1 (v := .bool _) Try.results23 rfl ?_
                      -- path FFTTFTFFTT
                      refine ⟨⟨_, rfl, ?_⟩, h⟩
                      unfold allowP
                      simp only [hal, false_or]
                      first
                      | (exfalso; omega)
                      | (refine iff_of_true trivial ?_; omega)
                      | (refine iff_of_false (by decide) ?_; omega)
                      | (rw [decide_eq_true_iff]; omega)
                    · skip
                      refine W.skip ?_
                      refine W.seq ?_
                      refine W.region ?_
                      refine WL.val run_assign rfl rfl ?_
                      refine WL.nil ?_
                      refine W.ret ?_
                      refine bodyQ.r1 (v := .bool _) Try.results23 rfl ?_
                      -- path FFTTFTFFTF
                      refine ⟨⟨_, rfl, ?_⟩, h⟩
                      unfold allowP
                      simp only [hal, false_or]
                      first
                      | (exfalso; omega)
                      | (refine iff_of_true trivial ?_; omega)
                      | (refine iff_of_false (by decide) ?_; omega)
                      | (rw [decide_eq_true_iff]; omega)
                  · skip
                    refine W.seq ?_
                    refine W.region ?_
                    refine WL.val (run_eql rfl rfl) rfl rfl ?_
                    refine WL.val run_assign rfl rfl ?_
                    refine WL.nil ?_
                    refine W.condIf rfl (fun c23 => ?_) (fun c23 => ?_)
                    · skip
                      refine W.skip ?_
                      refine W.condIf rfl (fun c26 => ?_) (fun c26 => ?_)
                      · skip
                        refine W.seq ?_
                        refine W.region ?_
                        refine WL.val run_assign rfl rfl ?_
                        refine WL.nil ?_
                        refine W.ret ?_
                        refine bodyQ.r1 (v := .bool _) Try.results23 rfl ?_
                        -- path FFTTFTFFFTT
                        refine ⟨⟨_, rfl, ?_⟩, h⟩
                        unfold allowP
                        simp only [hal, false_or]
                        first
                        | (exfalso; omega)
                        | (refine iff_of_true trivial ?_; omega)
                        | (refine iff_of_false (by decide) ?_; omega)
                        | (rw [decide_eq_true_iff]; omega)
                      · skip
                        refine W.skip ?_
                        refine W.seq ?_
                        refine W.region ?_
                        refine WL.val run_assign rfl rfl ?_
                        refine WL.nil ?_
                        refine W.ret ?_
                        refine bodyQ.r1 (v := .bool _) Try.results23 rfl ?_
                        -- path FFTTFTFFFTF
                        refine ⟨⟨_, rfl, ?_⟩, h⟩
                        unfold allowP
                        simp only [hal, false_or]
                        first
                        | (exfalso; omega)
                        | (refine iff_of_true trivial ?_; omega)
                        | (refine iff_of_false (by decide) ?_; omega)
                        | (rw [decide_eq_true_iff]; omega)
                    · skip
                      refine W.region ?_
                      refine WL.val (run_eql rfl rfl) rfl rfl ?_
                      refine WL.val run_assign rfl rfl ?_
                      refine WL.nil ?_
                      refine W.condIf rfl (fun c26 => ?_) (fun c26 => ?_)
                      · skip
                        refine W.seq ?_
                        refine W.region ?_
                        refine WL.val run_assign rfl rfl ?_
                        refine WL.nil ?_
                        refine W.ret ?_
                        refine bodyQ.r1 (v := .bool _) Try.results23 rfl ?_
                        -- path FFTTFTFFFFT
                        refine ⟨⟨_, rfl, ?_⟩, h⟩
                        unfold allowP
                        simp only [hal, false_or]
                        first
                        | (exfalso; omega)
                        | (refine iff_of_true trivial ?_; omega)
                        | (refine iff_of_false (by decide) ?_; omega)
                        | (rw [decide_eq_true_iff]; omega)
                      · skip
                        refine W.skip ?_
                        refine W.seq ?_
                        refine W.region ?_
                        refine WL.val run_assign rfl rfl ?_
                        refine WL.nil ?_
                        refine W.ret ?_
                        refine bodyQ.r1 (v := .bool _) Try.results23 rfl ?_
                        -- path FFTTFTFFFFF
                        refine ⟨⟨_, rfl, ?_⟩, h⟩
                        unfold allowP
                        simp only [hal, false_or]
                        first
                        | (exfalso; omega)
                        | (refine iff_of_true trivial ?_; omega)
                        | (refine iff_of_false (by decide) ?_; omega)
                        | (rw [decide_eq_true_iff]; omega)
            · skip
              refine W.region ?_
              refine WL.val (run_eql rfl rfl) rfl rfl ?_
              refine WL.val run_assign rfl rfl ?_
              refine WL.nil ?_
              refine W.condIf rfl (fun c13 => ?_) (fun c13 => ?_)
              · skip
                refine W.seq ?_
                refine W.region ?_
                refine WL.val run_move rfl rfl ?_
                refine WL.val (run_nilCheck rfl) rfl rfl ?_
                refine WL.val (run_fieldAddr 9 Try.underlying93 rfl Try.sizeOf3 rfl rfl) rfl rfl ?_
                refine WL.val (run_load1 Try.isAgg3 rfl (h.cellB rfl)) rfl rfl ?_
                refine WL.dec (run_eql rfl rfl) rfl rfl (fun c46 => ?_) (fun c46 => ?_)
                · skip
                  refine WL.val run_move rfl rfl ?_
                  refine WL.skip rfl rfl ?_
                  refine WL.skip rfl rfl ?_
                  refine WL.skip rfl rfl ?_
                  refine WL.skip rfl rfl ?_
                  refine WL.skip rfl rfl ?_
                  refine WL.val (run_pickT rfl) rfl rfl ?_
                  refine WL.val run_assign rfl rfl ?_
                  refine WL.nil ?_
                  refine W.ret ?_
                  refine bodyQ.r1 (v := .bool _) Try.results23 rfl ?_
                  -- path FFTTFFTT
                  refine ⟨⟨_, rfl, ?_⟩, h⟩
                  unfold allowP
                  simp only [hal, false_or]
                  first
                  | (exfalso; omega)
                  | (refine iff_of_true trivial ?_; omega)
                  | (refine iff_of_false (by decide) ?_; omega)
                  | (rw [decide_eq_true_iff]; omega)
                · skip
                  refine WL.val run_move rfl rfl ?_
                  refine WL.val run_move rfl rfl ?_
                  refine WL.val (run_nilCheck rfl) rfl rfl ?_
                  refine WL.val (run_fieldAddr 9 Try.underlying93 rfl Try.sizeOf3 rfl rfl) rfl rfl ?_
                  refine WL.val (run_load1 Try.isAgg3 rfl (h.cellB rfl)) rfl rfl ?_
                  refine WL.val (run_eql rfl rfl) rfl rfl ?_
                  refine WL.val (run_pickF rfl) rfl rfl ?_
                  refine WL.val run_assign rfl rfl ?_
                  refine WL.nil ?_
                  refine W.ret ?_
                  refine bodyQ.r1 (v := .bool _) Try.results23 rfl ?_
                  -- path FFTTFFTF
                  refine ⟨⟨_, rfl, ?_⟩, h⟩
                  unfold allowP
                  simp only [hal, false_or]
                  first
                  | (exfalso; omega)
                  | (refine iff_of_true trivial ?_; omega)
                  | (refine iff_of_false (by decide) ?_; omega)
                  | (rw [decide_eq_true_iff]; omega)
              · skip
                refine W.seq ?_
                refine W.seq ?_
                refine W.region ?_
                refine WL.val (run_eql rfl rfl) rfl rfl ?_
                refine WL.val run_assign rfl rfl ?_
                refine WL.nil ?_
                refine W.condIf rfl (fun c17 => ?_) (fun c17 => ?_)
                · skip
                  refine W.skip ?_
                  refine W.condIf rfl (fun c26 => ?_) (fun c26 => ?_)
                  · skip
                    refine W.seq ?_
                    refine W.region ?_
                    refine WL.val run_assign rfl rfl ?_
                    refine WL.nil ?_
                    refine W.ret ?_
                    refine bodyQ.r1 (v := .bool _) Try.results23 rfl ?_
                    -- path FFTTFFFTT
                    refine ⟨⟨_, rfl, ?_⟩, h⟩
                    unfold allowP
                    simp only [hal, false_or]
                    first
                    | (exfalso; omega)
                    | (refine iff_of_true trivial ?_; omega)
                    | (refine iff_of_false (by decide) ?_; omega)
                    | (rw [decide_eq_true_iff]; omega)
                  · skip
                    refine W.skip ?_
                    refine W.seq ?_
                    refine W.region ?_
                    refine WL.val run_assign rfl rfl ?_
                    refine WL.nil ?_
                    refine W.ret ?_
                    refine bodyQ.r1 (v := .bool _) Try.results23 rfl ?_
                    -- path FFTTFFFTF
                    refine ⟨⟨_, rfl, ?_⟩, h⟩
                    unfold allowP
                    simp only [hal, false_or]
                    first
                    | (exfalso; omega)
                    | (refine iff_of_true trivial ?_; omega)
                    | (refine iff_of_false (by decide) ?_; omega)
                    | (rw [decide_eq_true_iff]; omega)
                · skip
                  refine W.seq ?_
                  refine W.region ?_
                  refine WL.val (run_eql rfl rfl) rfl rfl ?_
                  refine WL.val run_assign rfl rfl ?_
                  refine WL.nil ?_
                  refine W.condIf rfl (fun c20 => ?_) (fun c20 => ?_)
                  · skip
                    refine W.skip ?_
                    refine W.condIf rfl (fun c26 => ?_) (fun c26 => ?_)
                    · skip
                      refine W.seq ?_
                      refine W.region ?_
                      refine WL.val run_assign rfl rfl ?_
                      refine WL.nil ?_
                      refine W.ret ?_
                      refine bodyQ.r1 (v := .bool _) Try.results23 rfl ?_
                      -- path FFTTFFFFTT
                      refine ⟨⟨_, rfl, ?_⟩, h⟩
                      unfold allowP
                      simp only [hal, false_or]
                      first
                      | (exfalso; omega)
                      | (refine iff_of_true trivial ?_; omega)
                      | (refine iff_of_false (by decide) ?_; omega)
                      | (rw [decide_eq_true_iff]; omega)
                    · skip
                      refine W.skip ?_
                      refine W.seq ?_
                      refine W.region ?_
                      refine WL.val run_assign rfl rfl ?_
                      refine WL.nil ?_
                      refine W.ret ?_
                      refine bodyQ.r1 (v := .bool _) Try.results23 rfl ?_
                      -- path FFTTFFFFTF
                      refine ⟨⟨_, rfl, ?_⟩, h⟩
                      unfold allowP
                      simp only [hal, false_or]
                      first
                      | (exfalso; omega)
                      | (refine iff_of_true trivial ?_; omega)
                      | (refine iff_of_false (by decide) ?_; omega)
                      | (rw [decide_eq_true_iff]; omega)
                  · skip
                    refine W.seq ?_
                    refine W.region ?_
                    refine WL.val (run_eql rfl rfl) rfl rfl ?_
                    refine WL.val run_assign rfl rfl ?_
                    refine WL.nil ?_
                    refine W.condIf rfl (fun c23 => ?_) (fun c23 => ?_)
                    · skip
                      refine W.skip ?_
                      refine W.condIf rfl (fun c26 => ?_) (fun c26 => ?_)
                      · skip
                        refine W.seq ?_
                        refine W.region ?_
                        refine WL.val run_assign rfl rfl ?_
                        refine WL.nil ?_
                        refine W.ret ?_
                        refine bodyQ.r1 (v := .bool _) Try.results23 rfl ?_
                        -- path FFTTFFFFFTT
                        refine ⟨⟨_, rfl, ?_⟩, h⟩
                        unfold allowP
                        simp only [hal, false_or]
                        first
                        | (exfalso; omega)
                        | (refine iff_of_true trivial ?_; omega)
                        | (refine iff_of_false (by decide) ?_; omega)
                        | (rw [decide_eq_true_iff]; omega)
                      · skip
                        refine W.skip ?_
                        refine W.seq ?_
                        refine W.region ?_
                        refine WL.val run_assign rfl rfl ?_
                        refine WL.nil ?_
                        refine W.ret ?_
                        refine bodyQ.r1 (v := .bool _) Try.results23 rfl ?_
                        -- path FFTTFFFFFTF
                        refine ⟨⟨_, rfl, ?_⟩, h⟩
                        unfold allowP
                        simp only [hal, false_or]
                        first
                        | (exfalso; omega)
                        | (refine iff_of_true trivial ?_; omega)
                        | (refine iff_of_false (by decide) ?_; omega)
                        | (rw [decide_eq_true_iff]; omega)
                    · skip
                      refine W.region ?_
                      refine WL.val (run_eql rfl rfl) rfl rfl ?_
                      refine WL.val run_assign rfl rfl ?_
                      refine WL.nil ?_
                      refine W.condIf rfl (fun c26 => ?_) (fun c26 => ?_)
                      · skip
                        refine W.seq ?_
                        refine W.region ?_
                        refine WL.val run_assign rfl rfl ?_
                        refine WL.nil ?_
                        refine W.ret ?_
                        refine bodyQ.r1 (v := .bool _) Try.results23 rfl ?_
                        -- path FFTTFFFFFFT
                        refine ⟨⟨_, rfl, ?_⟩, h⟩
                        unfold allowP
                        simp only [hal, false_or]
                        first
                        | (exfalso; omega)
                        | (refine iff_of_true trivial ?_; omega)
                        | (refine iff_of_false (by decide) ?_; omega)
                        | (rw [decide_eq_true_iff]; omega)
                      · skip
                        refine W.skip ?_
                        refine W.seq ?_
                        refine W.region ?_
                        refine WL.val run_assign rfl rfl ?_
                        refine WL.nil ?_
                        refine W.ret ?_
                        refine bodyQ.r1 (v := .bool _) Try.results23 rfl ?_
                        -- path FFTTFFFFFFF
                        refine ⟨⟨_, rfl, ?_⟩, h⟩
                        unfold allowP
                        simp only [hal, false_or]
                        first
                        | (exfalso; omega)
                        | (refine iff_of_true trivial ?_; omega)
                        | (refine iff_of_false (by decide) ?_; omega)
                        | (rw [decide_eq_true_iff]; omega)
        · skip
          refine WL.val (run_pickT rfl) rfl rfl ?_
          refine WL.val run_move rfl rfl ?_
          refine WL.skip rfl rfl ?_
          refine WL.skip rfl rfl ?_
          refine WL.skip rfl rfl ?_
          refine WL.skip rfl rfl ?_
          refine WL.skip rfl rfl ?_
          refine WL.skip rfl rfl ?_
          refine WL.skip rfl rfl ?_
          refine WL.val (run_pickF rfl) rfl rfl ?_
          refine WL.val (run_pickF rfl) rfl rfl ?_
          refine WL.val run_assign rfl rfl ?_
          refine WL.nil ?_
          refine W.condF rfl ?_
          refine W.skip ?_
          refine W.seq ?_
          refine W.seq ?_
          have hal : ¬ alwP t hh := by
            rintro (h1 | h1 | ⟨h1, j, hj, h2, h3⟩)
            · exact c12 h1
            · exact c19 h1
            · have hb2 := hostB_no.1 hb; omega
          refine W.region ?_
          refine WL.val run_move rfl rfl ?_
          refine WL.nil ?_
          refine W.block ?_
          refine W.seq ?_
          refine W.seq ?_
          refine W.region ?_
          refine WL.val (run_eql rfl rfl) rfl rfl ?_
          refine WL.val run_assign rfl rfl ?_
          refine WL.nil ?_
          refine W.condIf rfl (fun c10 => ?_) (fun c10 => ?_)
          · skip
            refine W.skip ?_
            refine W.condIf rfl (fun c13 => ?_) (fun c13 => ?_)
            · skip
              refine W.seq ?_
              refine W.region ?_
              refine WL.val run_move rfl rfl ?_
              refine WL.val (run_nilCheck rfl) rfl rfl ?_
              refine WL.val (run_fieldAddr 9 Try.underlying93 rfl Try.sizeOf3 rfl rfl) rfl rfl ?_
              refine WL.val (run_load1 Try.isAgg3 rfl (h.cellB rfl)) rfl rfl ?_
              refine WL.dec (run_eql rfl rfl) rfl rfl (fun c46 => ?_) (fun c46 => ?_)
              · skip
                refine WL.val run_move rfl rfl ?_
                refine WL.skip rfl rfl ?_
                refine WL.skip rfl rfl ?_
                refine WL.skip rfl rfl ?_
                refine WL.skip rfl rfl ?_
                refine WL.skip rfl rfl ?_
                refine WL.val (run_pickT rfl) rfl rfl ?_
                refine WL.val run_assign rfl rfl ?_
                refine WL.nil ?_
                refine W.ret ?_
                refine bodyQ.r1 (v := .bool _) Try.results23 rfl ?_
                -- path FFTFTTT
                refine ⟨⟨_, rfl, ?_⟩, h⟩
                unfold allowP
                simp only [hal, false_or]
                first
                | (exfalso; omega)
                | (refine iff_of_true trivial ?_; omega)
                | (refine iff_of_false (by decide) ?_; omega)
                | (rw [decide_eq_true_iff]; omega)
              · skip
                refine WL.val run_move rfl rfl ?_
                refine WL.val run_move rfl rfl ?_
                refine WL.val (run_nilCheck rfl) rfl rfl ?_
                refine WL.val (run_fieldAddr 9 Try.underlying93 rfl Try.sizeOf3 rfl rfl) rfl rfl ?_
                refine WL.val (run_load1 Try.isAgg3 rfl (h.cellB rfl)) rfl rfl ?_
                refine WL.val (run_eql rfl rfl) rfl rfl ?_
                refine WL.val (run_pickF rfl) rfl rfl ?_
                refine WL.val run_assign rfl rfl ?_
                refine WL.nil ?_
                refine W.ret ?_
                refine bodyQ.r1 (v := .bool _) Try.results23 rfl ?_
                -- path FFTFTTF
                refine ⟨⟨_, rfl, ?_⟩, h⟩
                unfold allowP
                simp only [hal, false_or]
                first
                | (exfalso; omega)
                | (refine iff_of_true trivial ?_; omega)
                | (refine iff_of_false (by decide) ?_; omega)
                | (rw [decide_eq_true_iff]; omega)
            · skip
              refine W.seq ?_
              refine W.seq ?_
              refine W.region ?_
              refine WL.val (run_eql rfl rfl) rfl rfl ?_
              refine WL.val run_assign rfl rfl ?_
              refine WL.nil ?_
              refine W.condIf rfl (fun c17 => ?_) (fun c17 => ?_)
              · skip
                refine W.skip ?_
                refine W.condIf rfl (fun c26 => ?_) (fun c26 => ?_)
                · skip
                  refine W.seq ?_
                  refine W.region ?_
                  refine WL.val run_assign rfl rfl ?_
                  refine WL.nil ?_
                  refine W.ret ?_
                  refine bodyQ.r1 (v := .bool _) Try.results23 rfl ?_
                  -- path FFTFTFTT
                  refine ⟨⟨_, rfl, ?_⟩, h⟩
                  unfold allowP
                  simp only [hal, false_or]
                  first
                  | (exfalso; omega)
                  | (refine iff_of_true trivial ?_; omega)
                  | (refine iff_of_false (by decide) ?_; omega)
                  | (rw [decide_eq_true_iff]; omega)
                · skip
                  refine W.skip ?_
                  refine W.seq ?_
                  refine W.region ?_
                  refine WL.val run_assign rfl rfl ?_
                  refine WL.nil ?_
                  refine W.ret ?_
                  refine bodyQ.r1 (v := .bool _) Try.results23 rfl ?_
                  -- path FFTFTFTF
                  refine ⟨⟨_, rfl, ?_⟩, h⟩
                  unfold allowP
                  simp only [hal, false_or]
                  first
                  | (exfalso; omega)
                  | (refine iff_of_true trivial ?_; omega)
                  | (refine iff_of_false (by decide) ?_; omega)
                  | (rw [decide_eq_true_iff]; omega)
              · skip
                refine W.seq ?_
                refine W.region ?_
                refine WL.val (run_eql rfl rfl) rfl rfl ?_
                refine WL.val run_assign rfl rfl ?_
                refine WL.nil ?_
                refine W.condIf rfl (fun c20 => ?_) (fun c20 => ?_)
                · skip
                  refine W.skip ?_
                  refine W.condIf rfl (fun c26 => ?_) (fun c26 => ?_)
                  · skip
                    refine W.seq ?_
                    refine W.region ?_
                    refine WL.val run_assign rfl rfl ?_
                    refine WL.nil ?_
                    refine W.ret ?_
                    refine bodyQ.r1 (v := .bool _) Try.results23 rfl ?_
                    -- path FFTFTFFTT
                    refine ⟨⟨_, rfl, ?_⟩, h⟩
                    unfold allowP
                    simp only [hal, false_or]
                    first
                    | (exfalso; omega)
                    | (refine iff_of_true trivial ?_; omega)
                    | (refine iff_of_false (by decide) ?_; omega)
                    | (rw [decide_eq_true_iff]; omega)
                  · skip
                    refine W.skip ?_
                    refine W.seq ?_
                    refine W.region ?_
                    refine WL.val run_assign rfl rfl ?_
                    refine WL.nil ?_
                    refine W.ret ?_
                    refine bodyQ.r1 (v := .bool _) Try.results23 rfl ?_
                    -- path FFTFTFFTF
                    refine ⟨⟨_, rfl, ?_⟩, h⟩
                    unfold allowP
                    simp only [hal, false_or]
                    first
                    | (exfalso; omega)
                    | (refine iff_of_true trivial ?_; omega)
                    | (refine iff_of_false (by decide) ?_; omega)
                    | (rw [decide_eq_true_iff]; omega)
                · skip
                  refine W.seq ?_
                  refine W.region ?_
                  refine WL.val (run_eql rfl rfl) rfl rfl ?_
                  refine WL.val run_assign rfl rfl ?_
                  refine WL.nil ?_
                  refine W.condIf rfl (fun c23 => ?_) (fun c23 => ?_)
                  · skip
                    refine W.skip ?_
                    refine W.condIf rfl (fun c26 => ?_) (fun c26 => ?_)
                    · skip
                      refine W.seq ?_
                      refine W.region ?_
                      refine WL.val run_assign rfl rfl ?_
                      refine WL.nil ?_
                      refine W.ret ?_
                      refine bodyQ.r1 (v := .bool _) Try.results23 rfl ?_
                      -- path FFTFTFFFTT
                      refine ⟨⟨_, rfl, ?_⟩, h⟩
                      unfold allowP
                      simp only [hal, false_or]
                      first
                      | (exfalso; omega)
                      | (refine iff_of_true trivial ?_; omega)
                      | (refine iff_of_false (by decide) ?_; omega)
                      | (rw [decide_eq_true_iff]; omega)
                    · skip
                      refine W.skip ?_
                      refine W.seq ?_
                      refine W.region ?_
                      refine WL.val run_assign rfl rfl ?_
                      refine WL.nil ?_
                      refine W.ret ?_
                      refine bodyQ.r1 (v := .bool _) Try.results23 rfl ?_
                      -- path FFTFTFFFTF
                      refine ⟨⟨_, rfl, ?_⟩, h⟩
                      unfold allowP
                      simp only [hal, false_or]
                      first
                      | (exfalso; omega)
                      | (refine iff_of_true trivial ?_; omega)
                      | (refine iff_of_false (by decide) ?_; omega)
                      | (rw [decide_eq_true_iff]; omega)
                  · skip
                    refine W.region ?_
                    refine WL.val (run_eql rfl rfl) rfl rfl ?_
                    refine WL.val run_assign rfl rfl ?_
                    refine WL.nil ?_
                    refine W.condIf rfl (fun c26 => ?_) (fun c26 => ?_)
                    · skip
                      refine W.seq ?_
                      refine W.region ?_
                      refine WL.val run_assign rfl rfl ?_
                      refine WL.nil ?_
                      refine W.ret ?_
                      refine bodyQ.r1 (v := .bool _) Try.results23 rfl ?_
                      -- path FFTFTFFFFT
                      refine ⟨⟨_, rfl, ?_⟩, h⟩
                      unfold allowP
                      simp only [hal, false_or]
                      first
                      | (exfalso; omega)
                      | (refine iff_of_true trivial ?_; omega)
                      | (refine iff_of_false (by decide) ?_; omega)
                      | (rw [decide_eq_true_iff]; omega)
                    · skip
                      refine W.skip ?_
                      refine W.seq ?_
                      refine W.region ?_
                      refine WL.val run_assign rfl rfl ?_
                      refine WL.nil ?_
                      refine W.ret ?_
                      refine bodyQ.r1 (v := .bool _) Try.results23 rfl ?_
                      -- path FFTFTFFFFF
                      refine ⟨⟨_, rfl, ?_⟩, h⟩
                      unfold allowP
                      simp only [hal, false_or]
                      first
                      | (exfalso; omega)
                      | (refine iff_of_true trivial ?_; omega)
                      | (refine iff_of_false (by decide) ?_; omega)
                      | (rw [decide_eq_true_iff]; omega)
          · skip
            refine W.region ?_
            refine WL.val (run_eql rfl rfl) rfl rfl ?_
            refine WL.val run_assign rfl rfl ?_
            refine WL.nil ?_
            refine W.condIf rfl (fun c13 => ?_) (fun c13 => ?_)
            · skip
              refine W.seq ?_
              refine W.region ?_
              refine WL.val run_move rfl rfl ?_
              refine WL.val (run_nilCheck rfl) rfl rfl ?_
              refine WL.val (run_fieldAddr 9 Try.underlying93 rfl Try.sizeOf3 rfl rfl) rfl rfl ?_
              refine WL.val (run_load1 Try.isAgg3 rfl (h.cellB rfl)) rfl rfl ?_
              refine WL.dec (run_eql rfl rfl) rfl rfl (fun c46 => ?_) (fun c46 => ?_)
              · skip
                refine WL.val run_move rfl rfl ?_
                refine WL.skip rfl rfl ?_
                refine WL.skip rfl rfl ?_
                refine WL.skip rfl rfl ?_
                refine WL.skip rfl rfl ?_
                refine WL.skip rfl rfl ?_
                refine WL.val (run_pickT rfl) rfl rfl ?_
                refine WL.val run_assign rfl rfl ?_
                refine WL.nil ?_
                refine W.ret ?_
                refine bodyQ.r1 (v := .bool _) Try.results23 rfl ?_
                -- path FFTFFTT
                refine ⟨⟨_, rfl, ?_⟩, h⟩
                unfold allowP
                simp only [hal, false_or]
                first
                | (exfalso; omega)
                | (refine iff_of_true trivial ?_; omega)
                | (refine iff_of_false (by decide) ?_; omega)
                | (rw [decide_eq_true_iff]; omega)
              · skip
                refine WL.val run_move rfl rfl ?_
                refine WL.val run_move rfl rfl ?_
                refine WL.val (run_nilCheck rfl) rfl rfl ?_
                refine WL.val (run_fieldAddr 9 Try.underlying93 rfl Try.sizeOf3 rfl rfl) rfl rfl ?_
                refine WL.val (run_load1 Try.isAgg3 rfl (h.cellB rfl)) rfl rfl ?_
                refine WL.val (run_eql rfl rfl) rfl rfl ?_
                refine WL.val (run_pickF rfl) rfl rfl ?_
                refine WL.val run_assign rfl rfl ?_
                refine WL.nil ?_
                refine W.ret ?_
                refine bodyQ.r1 (v := .bool _) Try.results23 rfl ?_
                -- path FFTFFTF
                refine ⟨⟨_, rfl, ?_⟩, h⟩
                unfold allowP
                simp only [hal, false_or]
                first
                | (exfalso; omega)
                | (refine iff_of_true trivial ?_; omega)
                | (refine iff_of_false (by decide) ?_; omega)
                | (rw [decide_eq_true_iff]; omega)
            · skip
              refine W.seq ?_
              refine W.seq ?_
              refine W.region ?_
              refine WL.val (run_eql rfl rfl) rfl rfl ?_
              refine WL.val run_assign rfl rfl ?_
              refine WL.nil ?_
              refine W.condIf rfl (fun c17 => ?_) (fun c17 => ?_)
              · skip
                refine W.skip ?_
                refine W.condIf rfl (fun c26 => ?_) (fun c26 => ?_)
                · skip
                  refine W.seq ?_
                  refine W.region ?_
                  refine WL.val run_assign rfl rfl ?_
                  refine WL.nil ?_
                  refine W.ret ?_
                  refine bodyQ.r1 (v := .bool _) Try.results23 rfl ?_
                  -- path FFTFFFTT
                  refine ⟨⟨_, rfl, ?_⟩, h⟩
                  unfold allowP
                  simp only [hal, false_or]
                  first
                  | (exfalso; omega)
                  | (refine iff_of_true trivial ?_; omega)
                  | (refine iff_of_false (by decide) ?_; omega)
                  | (rw [decide_eq_true_iff]; omega)
                · skip
                  refine W.skip ?_
                  refine W.seq ?_
                  refine W.region ?_
                  refine WL.val run_assign rfl rfl ?_
                  refine WL.nil ?_
                  refine W.ret ?_
                  refine bodyQ.r1 (v := .bool _) Try.results23 rfl ?_
                  -- path FFTFFFTF
                  refine ⟨⟨_, rfl, ?_⟩, h⟩
                  unfold allowP
                  simp only [hal, false_or]
                  first
                  | (exfalso; omega)
                  | (refine iff_of_true trivial ?_; omega)
                  | (refine iff_of_false (by decide) ?_; omega)
                  | (rw [decide_eq_true_iff]; omega)
              · skip
                refine W.seq ?_
                refine W.region ?_
                refine WL.val (run_eql rfl rfl) rfl rfl ?_
                refine WL.val run_assign rfl rfl ?_
                refine WL.nil ?_
                refine W.condIf rfl (fun c20 => ?_) (fun c20 => ?_)
                · skip
                  refine W.skip ?_
                  refine W.condIf rfl (fun c26 => ?_) (fun c26 => ?_)
                  · skip
                    refine W.seq ?_
                    refine W.region ?_
                    refine WL.val run_assign rfl rfl ?_
                    refine WL.nil ?_
                    refine W.ret ?_
                    refine bodyQ.r1 (v := .bool _) Try.results23 rfl ?_
                    -- path FFTFFFFTT
                    refine ⟨⟨_, rfl, ?_⟩, h⟩
                    unfold allowP
                    simp only [hal, false_or]
                    first
                    | (exfalso; omega)
                    | (refine iff_of_true trivial ?_; omega)
                    | (refine iff_of_false (by decide) ?_; omega)
                    | (rw [decide_eq_true_iff]; omega)
                  · skip
                    refine W.skip ?_
                    refine W.seq ?_
                    refine W.region ?_
                    refine WL.val run_assign rfl rfl ?_
                    refine WL.nil ?_
                    refine W.ret ?_
                    refine bodyQ.r1 (v := .bool _) Try.results23 rfl ?_
                    -- path FFTFFFFTF
                    refine ⟨⟨_, rfl, ?_⟩, h⟩
                    unfold allowP
                    simp only [hal, false_or]
                    first
                    | (exfalso; omega)
                    | (refine iff_of_true trivial ?_; omega)
                    | (refine iff_of_false (by decide) ?_; omega)
                    | (rw [decide_eq_true_iff]; omega)
                · skip
                  refine W.seq ?_
                  refine W.region ?_
                  refine WL.val (run_eql rfl rfl) rfl rfl ?_
                  refine WL.val run_assign rfl rfl ?_
                  refine WL.nil ?_
                  refine W.condIf rfl (fun c23 => ?_) (fun c23 => ?_)
                  · skip
                    refine W.skip ?_
                    refine W.condIf rfl (fun c26 => ?_) (fun c26 => ?_)
                    · skip
                      refine W.seq ?_
                      refine W.region ?_
                      refine WL.val run_assign rfl rfl ?_
                      refine WL.nil ?_
                      refine W.ret ?_
                      refine bodyQ.r1 (v := .bool _) Try.results23 rfl ?_
                      -- path FFTFFFFFTT
                      refine ⟨⟨_, rfl, ?_⟩, h⟩
                      unfold allowP
                      simp only [hal, false_or]
                      first
                      | (exfalso; omega)
                      | (refine iff_of_true trivial ?_; omega)
                      | (refine iff_of_false (by decide) ?_; omega)
                      | (rw [decide_eq_true_iff]; omega)
                    · skip
                      refine W.skip ?_
                      refine W.seq ?_
                      refine W.region ?_
                      refine WL.val run_assign rfl rfl ?_
                      refine WL.nil ?_
                      refine W.ret ?_
                      refine bodyQ.r1 (v := .bool _) Try.results23 rfl ?_
                      -- path FFTFFFFFTF
                      refine ⟨⟨_, rfl, ?_⟩, h⟩
                      unfold allowP
                      simp only [hal, false_or]
                      first
                      | (exfalso; omega)
                      | (refine iff_of_true trivial ?_; omega)
                      | (refine iff_of_false (by decide) ?_; omega)
                      | (rw [decide_eq_true_iff]; omega)
                  · skip
                    refine W.region ?_
                    refine WL.val (run_eql rfl rfl) rfl rfl ?_
                    refine WL.val run_assign rfl rfl ?_
                    refine WL.nil ?_
                    refine W.condIf rfl (fun c26 => ?_) (fun c26 => ?_)
                    · skip
                      refine W.seq ?_
                      refine W.region ?_
                      refine WL.val run_assign rfl rfl ?_
                      refine WL.nil ?_
                      refine W.ret ?_
                      refine bodyQ.r1 (v := .bool _) Try.results23 rfl ?_
                      -- path FFTFFFFFFT
                      refine ⟨⟨_, rfl, ?_⟩, h⟩
                      unfold allowP
                      simp only [hal, false_or]
                      first
                      | (exfalso; omega)
                      | (refine iff_of_true trivial ?_; omega)
                      | (refine iff_of_false (by decide) ?_; omega)
                      | (rw [decide_eq_true_iff]; omega)
                    · skip
                      refine W.skip ?_
                      refine W.seq ?_
                      refine W.region ?_
                      refine WL.val run_assign rfl rfl ?_
                      refine WL.nil ?_
                      refine W.ret ?_
                      refine bodyQ.r1 (v := .bool _) Try.results23 rfl ?_
                      -- path FFTFFFFFFF
                      refine ⟨⟨_, rfl, ?_⟩, h⟩
                      unfold allowP
                      simp only [hal, false_or]
                      first
                      | (exfalso; omega)
                      | (refine iff_of_true trivial ?_; omega)
                      | (refine iff_of_false (by decide) ?_; omega)
                      | (rw [decide_eq_true_iff]; omega)
      · skip
        refine WL.val run_move rfl rfl ?_
        refine WL.skip rfl rfl ?_
        refine WL.skip rfl rfl ?_
        refine WL.val (run_pickF rfl) rfl rfl ?_
        refine WL.val run_move rfl rfl ?_
        refine WL.skip rfl rfl ?_
        refine WL.skip rfl rfl ?_
        refine WL.skip rfl rfl ?_
        refine WL.skip rfl rfl ?_
        refine WL.skip rfl rfl ?_
        refine WL.skip rfl rfl ?_
        refine WL.skip rfl rfl ?_
        refine WL.val (run_pickF rfl) rfl rfl ?_
        refine WL.val (run_pickF rfl) rfl rfl ?_
        refine WL.val run_assign rfl rfl ?_
        refine WL.nil ?_
        refine W.condF rfl ?_
        refine W.skip ?_
        refine W.seq ?_
        refine W.seq ?_
        have hal : ¬ alwP t hh := by
          rintro (h1 | h1 | ⟨h1, j, hj, h2, h3⟩)
          · exact c12 h1
          · exact c19 h1
          · rw [hrg] at h1; cases h1
        refine W.region ?_
        refine WL.val run_move rfl rfl ?_
        refine WL.nil ?_
        refine W.block ?_
        refine W.seq ?_
        refine W.seq ?_
        refine W.region ?_
        refine WL.val (run_eql rfl rfl) rfl rfl ?_
        refine WL.val run_assign rfl rfl ?_
        refine WL.nil ?_
        refine W.condIf rfl (fun c10 => ?_) (fun c10 => ?_)
        · skip
          refine W.skip ?_
          refine W.condIf rfl (fun c13 => ?_) (fun c13 => ?_)
          · skip
            refine W.seq ?_
            refine W.region ?_
            refine WL.val run_move rfl rfl ?_
            refine WL.val (run_nilCheck rfl) rfl rfl ?_
            refine WL.val (run_fieldAddr 9 Try.underlying93 rfl Try.sizeOf3 rfl rfl) rfl rfl ?_
            refine WL.val (run_load1 Try.isAgg3 rfl (h.cellB rfl)) rfl rfl ?_
            refine WL.dec (run_eql rfl rfl) rfl rfl (fun c46 => ?_) (fun c46 => ?_)
            · skip
              refine WL.val run_move rfl rfl ?_
              refine WL.skip rfl rfl ?_
              refine WL.skip rfl rfl ?_
              refine WL.skip rfl rfl ?_
              refine WL.skip rfl rfl ?_
              refine WL.skip rfl rfl ?_
              refine WL.val (run_pickT rfl) rfl rfl ?_
              refine WL.val run_assign rfl rfl ?_
              refine WL.nil ?_
              refine W.ret ?_
              refine bodyQ.r1 (v := .bool _) Try.results23 rfl ?_
              -- path FFFTTT
              refine ⟨⟨_, rfl, ?_⟩, h⟩
              unfold allowP
              simp only [hal, false_or]
              first
              | (exfalso; omega)
              | (refine iff_of_true trivial ?_; omega)
              | (refine iff_of_false (by decide) ?_; omega)
              | (rw [decide_eq_true_iff]; omega)
            · skip
              refine WL.val run_move rfl rfl ?_
              refine WL.val run_move rfl rfl ?_
              refine WL.val (run_nilCheck rfl) rfl rfl ?_
              refine WL.val (run_fieldAddr 9 Try.underlying93 rfl Try.sizeOf3 rfl rfl) rfl rfl ?_
              refine WL.val (run_load1 Try.isAgg3 rfl (h.cellB rfl)) rfl rfl ?_
              refine WL.val (run_eql rfl rfl) rfl rfl ?_
              refine WL.val (run_pickF rfl) rfl rfl ?_
              refine WL.val run_assign rfl rfl ?_
              refine WL.nil ?_
              refine W.ret ?_
              refine bodyQ.r1 (v := .bool _) Try.results23 rfl ?_
              -- path FFFTTF
              refine ⟨⟨_, rfl, ?_⟩, h⟩
              unfold allowP
              simp only [hal, false_or]
              first
              | (exfalso; omega)
              | (refine iff_of_true trivial ?_; omega)
              | (refine iff_of_false (by decide) ?_; omega)
              | (rw [decide_eq_true_iff]; omega)
          · skip
            refine W.seq ?_
            refine W.seq ?_
            refine W.region ?_
            refine WL.val (run_eql rfl rfl) rfl rfl ?_
            refine WL.val run_assign rfl rfl ?_
            refine WL.nil ?_
            refine W.condIf rfl (fun c17 => ?_) (fun c17 => ?_)
            · skip
              refine W.skip ?_
              refine W.condIf rfl (fun c26 => ?_) (fun c26 => ?_)
              · skip
                refine W.seq ?_
                refine W.region ?_
                refine WL.val run_assign rfl rfl ?_
                refine WL.nil ?_
                refine W.ret ?_
                refine bodyQ.r1 (v := .bool _) Try.results23 rfl ?_
                -- path FFFTFTT
                refine ⟨⟨_, rfl, ?_⟩, h⟩
                unfold allowP
                simp only [hal, false_or]
                first
                | (exfalso; omega)
                | (refine iff_of_true trivial ?_; omega)
                | (refine iff_of_false (by decide) ?_; omega)
                | (rw [decide_eq_true_iff]; omega)
              · skip
                refine W.skip ?_
                refine W.seq ?_
                refine W.region ?_
                refine WL.val run_assign rfl rfl ?_
                refine WL.nil ?_
                refine W.ret ?_
                refine bodyQ.r1 (v := .bool _) Try.results23 rfl ?_
                -- path FFFTFTF
                refine ⟨⟨_, rfl, ?_⟩, h⟩
                unfold allowP
                simp only [hal, false_or]
                first
                | (exfalso; omega)
                | (refine iff_of_true trivial ?_; omega)
                | (refine iff_of_false (by decide) ?_; omega)
                | (rw [decide_eq_true_iff]; omega)
            · skip
              refine W.seq ?_
              refine W.region ?_
              refine WL.val (run_eql rfl rfl) rfl rfl ?_
              refine WL.val run_assign rfl rfl ?_
              refine WL.nil ?_
              refine W.condIf rfl (fun c20 => ?_) (fun c20 => ?_)
              · skip
                refine W.skip ?_
                refine W.condIf rfl (fun c26 => ?_) (fun c26 => ?_)
                · skip
                  refine W.seq ?_
                  refine W.region ?_
                  refine WL.val run_assign rfl rfl ?_
                  refine WL.nil ?_
                  refine W.ret ?_
                  refine bodyQ.r1 (v := .bool _) Try.results23 rfl ?_
                  -- path FFFTFFTT
                  refine ⟨⟨_, rfl, ?_⟩, h⟩
                  unfold allowP
                  simp only [hal, false_or]
                  first
                  | (exfalso; omega)
                  | (refine iff_of_true trivial ?_; omega)
                  | (refine iff_of_false (by decide) ?_; omega)
                  | (rw [decide_eq_true_iff]; omega)
                · skip
                  refine W.skip ?_
                  refine W.seq ?_
                  refine W.region ?_
                  refine WL.val run_assign rfl rfl ?_
                  refine WL.nil ?_
                  refine W.ret ?_
                  refine bodyQ.r1 (v := .bool _) Try.results23 rfl ?_
                  -- path FFFTFFTF
                  refine ⟨⟨_, rfl, ?_⟩, h⟩
                  unfold allowP
                  simp only [hal, false_or]
                  first
                  | (exfalso; omega)
                  | (refine iff_of_true trivial ?_; omega)
                  | (refine iff_of_false (by decide) ?_; omega)
                  | (rw [decide_eq_true_iff]; omega)
              · skip
                refine W.seq ?_
                refine W.region ?_
                refine WL.val (run_eql rfl rfl) rfl rfl ?_
                refine WL.val run_assign rfl rfl ?_
                refine WL.nil ?_
                refine W.condIf rfl (fun c23 => ?_) (fun c23 => ?_)
                · skip
                  refine W.skip ?_
                  refine W.condIf rfl (fun c26 => ?_) (fun c26 => ?_)
                  · skip
                    refine W.seq ?_
                    refine W.region ?_
                    refine WL.val run_assign rfl rfl ?_
                    refine WL.nil ?_
                    refine W.ret ?_
                    refine bodyQ.r1 (v := .bool _) Try.results23 rfl ?_
                    -- path FFFTFFFTT
                    refine ⟨⟨_, rfl, ?_⟩, h⟩
                    unfold allowP
                    simp only [hal, false_or]
                    first
                    | (exfalso; omega)
                    | (refine iff_of_true trivial ?_; omega)
                    | (refine iff_of_false (by decide) ?_; omega)
                    | (rw [decide_eq_true_iff]; omega)
                  · skip
                    refine W.skip ?_
                    refine W.seq ?_
                    refine W.region ?_
                    refine WL.val run_assign rfl rfl ?_
                    refine WL.nil ?_
                    refine W.ret ?_
                    refine bodyQ.r1 (v := .bool _) Try.results23 rfl ?_
                    -- path FFFTFFFTF
                    refine ⟨⟨_, rfl, ?_⟩, h⟩
                    unfold allowP
                    simp only [hal, false_or]
                    first
                    | (exfalso; omega)
                    | (refine iff_of_true trivial ?_; omega)
                    | (refine iff_of_false (by decide) ?_; omega)
                    | (rw [decide_eq_true_iff]; omega)
                · skip
                  refine W.region ?_
                  refine WL.val (run_eql rfl rfl) rfl rfl ?_
                  refine WL.val run_assign rfl rfl ?_
                  refine WL.nil ?_
                  refine W.condIf rfl (fun c26 => ?_) (fun c26 => ?_)
                  · skip
                    refine W.seq ?_
                    refine W.region ?_
                    refine WL.val run_assign rfl rfl ?_
                    refine WL.nil ?_
                    refine W.ret ?_
                    refine bodyQ.r1 (v := .bool _) Try.results23 rfl ?_
                    -- path FFFTFFFFT
                    refine ⟨⟨_, rfl, ?_⟩, h⟩
                    unfold allowP
                    simp only [hal, false_or]
                    first
                    | (exfalso; omega)
                    | (refine iff_of_true trivial ?_; omega)
                    | (refine iff_of_false (by decide) ?_; omega)
                    | (rw [decide_eq_true_iff]; omega)
                  · skip
                    refine W.skip ?_
                    refine W.seq ?_
                    refine W.region ?_
                    refine WL.val run_assign rfl rfl ?_
                    refine WL.nil ?_
                    refine W.ret ?_
                    refine bodyQ.r1 (v := .bool _) Try.results23 rfl ?_
                    -- path FFFTFFFFF
                    refine ⟨⟨_, rfl, ?_⟩, h⟩
                    unfold allowP
                    simp only [hal, false_or]
                    first
                    | (exfalso; omega)
                    | (refine iff_of_true trivial ?_; omega)
                    | (refine iff_of_false (by decide) ?_; omega)
                    | (rw [decide_eq_true_iff]; omega)
        · skip
          refine W.region ?_
          refine WL.val (run_eql rfl rfl) rfl rfl ?_
          refine WL.val run_assign rfl rfl ?_
          refine WL.nil ?_
          refine W.condIf rfl (fun c13 => ?_) (fun c13 => ?_)
          · skip
            refine W.seq ?_
            refine W.region ?_
            refine WL.val run_move rfl rfl ?_
            refine WL.val (run_nilCheck rfl) rfl rfl ?_
            refine WL.val (run_fieldAddr 9 Try.underlying93 rfl Try.sizeOf3 rfl rfl) rfl rfl ?_
            refine WL.val (run_load1 Try.isAgg3 rfl (h.cellB rfl)) rfl rfl ?_
            refine WL.dec (run_eql rfl rfl) rfl rfl (fun c46 => ?_) (fun c46 => ?_)
            · skip
              refine WL.val run_move rfl rfl ?_
              refine WL.skip rfl rfl ?_
              refine WL.skip rfl rfl ?_
              refine WL.skip rfl rfl ?_
              refine WL.skip rfl rfl ?_
              refine WL.skip rfl rfl ?_
              refine WL.val (run_pickT rfl) rfl rfl ?_
              refine WL.val run_assign rfl rfl ?_
              refine WL.nil ?_
              refine W.ret ?_
              refine bodyQ.r1 (v := .bool _) Try.results23 rfl ?_
              -- path FFFFTT
              refine ⟨⟨_, rfl, ?_⟩, h⟩
              unfold allowP
              simp only [hal, false_or]
              first
              | (exfalso; omega)
              | (refine iff_of_true trivial ?_; omega)
              | (refine iff_of_false (by decide) ?_; omega)
              | (rw [decide_eq_true_iff]; omega)
            · skip
              refine WL.val run_move rfl rfl ?_
              refine WL.val run_move rfl rfl ?_
              refine WL.val (run_nilCheck rfl) rfl rfl ?_
              refine WL.val (run_fieldAddr 9 Try.underlying93 rfl Try.sizeOf3 rfl rfl) rfl rfl ?_
              refine WL.val (run_load1 Try.isAgg3 rfl (h.cellB rfl)) rfl rfl ?_
              refine WL.val (run_eql rfl rfl) rfl rfl ?_
              refine WL.val (run_pickF rfl) rfl rfl ?_
              refine WL.val run_assign rfl rfl ?_
              refine WL.nil ?_
              refine W.ret ?_
              refine bodyQ.r1 (v := .bool _) Try.results23 rfl ?_
              -- path FFFFTF
              refine ⟨⟨_, rfl, ?_⟩, h⟩
              unfold allowP
              simp only [hal, false_or]
              first
              | (exfalso; omega)
              | (refine iff_of_true trivial ?_; omega)
              | (refine iff_of_false (by decide) ?_; omega)
              | (rw [decide_eq_true_iff]; omega)
          · skip
            refine W.seq ?_
            refine W.seq ?_
            refine W.region ?_
            refine WL.val (run_eql rfl rfl) rfl rfl ?_
            refine WL.val run_assign rfl rfl ?_
            refine WL.nil ?_
            refine W.condIf rfl (fun c17 => ?_) (fun c17 => ?_)
            · skip
              refine W.skip ?_
              refine W.condIf rfl (fun c26 => ?_) (fun c26 => ?_)
              · skip
                refine W.seq ?_
                refine W.region ?_
                refine WL.val run_assign rfl rfl ?_
                refine WL.nil ?_
                refine W.ret ?_
                refine bodyQ.r1 (v := .bool _) Try.results23 rfl ?_
                -- path FFFFFTT
                refine ⟨⟨_, rfl, ?_⟩, h⟩
                unfold allowP
                simp only [hal, false_or]
                first
                | (exfalso; omega)
                | (refine iff_of_true trivial ?_; omega)
                | (refine iff_of_false (by decide) ?_; omega)
                | (rw [decide_eq_true_iff]; omega)
              · skip
                refine W.skip ?_
                refine W.seq ?_
                refine W.region ?_
                refine WL.val run_assign rfl rfl ?_
                refine WL.nil ?_
                refine W.ret ?_
                refine bodyQ.r1 (v := .bool _) Try.results23 rfl ?_
                -- path FFFFFTF
                refine ⟨⟨_, rfl, ?_⟩, h⟩
                unfold allowP
                simp only [hal, false_or]
                first
                | (exfalso; omega)
                | (refine iff_of_true trivial ?_; omega)
                | (refine iff_of_false (by decide) ?_; omega)
                | (rw [decide_eq_true_iff]; omega)
            · skip
              refine W.seq ?_
              refine W.region ?_
              refine WL.val (run_eql rfl rfl) rfl rfl ?_
              refine WL.val run_assign rfl rfl ?_
              refine WL.nil ?_
              refine W.condIf rfl (fun c20 => ?_) (fun c20 => ?_)
              · skip
                refine W.skip ?_
                refine W.condIf rfl (fun c26 => ?_) (fun c26 => ?_)
                · skip
                  refine W.seq ?_
                  refine W.region ?_
                  refine WL.val run_assign rfl rfl ?_
                  refine WL.nil ?_
                  refine W.ret ?_
                  refine bodyQ.r1 (v := .bool _) Try.results23 rfl ?_
                  -- path FFFFFFTT
                  refine ⟨⟨_, rfl, ?_⟩, h⟩
                  unfold allowP
                  simp only [hal, false_or]
                  first
                  | (exfalso; omega)
                  | (refine iff_of_true trivial ?_; omega)
                  | (refine iff_of_false (by decide) ?_; omega)
                  | (rw [decide_eq_true_iff]; omega)
                · skip
                  refine W.skip ?_
                  refine W.seq ?_
                  refine W.region ?_
                  refine WL.val run_assign rfl rfl ?_
                  refine WL.nil ?_
                  refine W.ret ?_
                  refine bodyQ.r1 (v := .bool _) Try.results23 rfl ?_
                  -- path FFFFFFTF
                  refine ⟨⟨_, rfl, ?_⟩, h⟩
                  unfold allowP
                  simp only [hal, false_or]
                  first
                  | (exfalso; omega)
                  | (refine iff_of_true trivial ?_; omega)
                  | (refine iff_of_false (by decide) ?_; omega)
                  | (rw [decide_eq_true_iff]; omega)
              · skip
                refine W.seq ?_
                refine W.region ?_
                refine WL.val (run_eql rfl rfl) rfl rfl ?_
                refine WL.val run_assign rfl rfl ?_
                refine WL.nil ?_
                refine W.condIf rfl (fun c23 => ?_) (fun c23 => ?_)
                · skip
                  refine W.skip ?_
                  refine W.condIf rfl (fun c26 => ?_) (fun c26 => ?_)
                  · skip
                    refine W.seq ?_
                    refine W.region ?_
                    refine WL.val run_assign rfl rfl ?_
                    refine WL.nil ?_
                    refine W.ret ?_
                    refine bodyQ.r1 (v := .bool _) Try.results23 rfl ?_
                    -- path FFFFFFFTT
                    refine ⟨⟨_, rfl, ?_⟩, h⟩
                    unfold allowP
                    simp only [hal, false_or]
                    first
                    | (exfalso; omega)
                    | (refine iff_of_true trivial ?_; omega)
                    | (refine iff_of_false (by decide) ?_; omega)
                    | (rw [decide_eq_true_iff]; omega)
                  · skip
                    refine W.skip ?_
                    refine W.seq ?_
                    refine W.region ?_
                    refine WL.val run_assign rfl rfl ?_
                    refine WL.nil ?_
                    refine W.ret ?_
                    refine bodyQ.r1 (v := .bool _) Try.results23 rfl ?_
                    -- path FFFFFFFTF
                    refine ⟨⟨_, rfl, ?_⟩, h⟩
                    unfold allowP
                    simp only [hal, false_or]
                    first
                    | (exfalso; omega)
                    | (refine iff_of_true trivial ?_; omega)
                    | (refine iff_of_false (by decide) ?_; omega)
                    | (rw [decide_eq_true_iff]; omega)
                · skip
                  refine W.region ?_
                  refine WL.val (run_eql rfl rfl) rfl rfl ?_
                  refine WL.val run_assign rfl rfl ?_
                  refine WL.nil ?_
                  refine W.condIf rfl (fun c26 => ?_) (fun c26 => ?_)
                  · skip
                    refine W.seq ?_
                    refine W.region ?_
                    refine WL.val run_assign rfl rfl ?_
                    refine WL.nil ?_
                    refine W.ret ?_
                    refine bodyQ.r1 (v := .bool _) Try.results23 rfl ?_
                    -- path FFFFFFFFT
                    refine ⟨⟨_, rfl, ?_⟩, h⟩
                    unfold allowP
                    simp only [hal, false_or]
                    first
                    | (exfalso; omega)
                    | (refine iff_of_true trivial ?_; omega)
                    | (refine iff_of_false (by decide) ?_; omega)
                    | (rw [decide_eq_true_iff]; omega)
                  · skip
                    refine W.skip ?_
                    refine W.seq ?_
                    refine W.region ?_
                    refine WL.val run_assign rfl rfl ?_
                    refine WL.nil ?_
                    refine W.ret ?_
                    refine bodyQ.r1 (v := .bool _) Try.results23 rfl ?_
                    -- path FFFFFFFFF
                    refine ⟨⟨_, rfl, ?_⟩, h⟩
                    unfold allowP
                    simp only [hal, false_or]
                    first
                    | (exfalso; omega)
                    | (refine iff_of_true trivial ?_; omega)
                    | (refine iff_of_false (by decide) ?_; omega)
                    | (rw [decide_eq_true_iff]; omega)

end Go.Proofs.Ytdpakoefdpmebaa
