/-
  The contracts of reservations. Lines of walks printed by a program of the prover's.
-/
import Derived.Test.YtdpakoefdpmebaaSpace2
import Derived.Test.YtdpakoefdpmebaaResvModel
namespace Go.Proofs.Ytdpakoefdpmebaa
open Go Go.Sl Go.Sl.RsM
set_option linter.unusedVariables false
set_option linter.unusedSimpArgs false
set_option maxHeartbeats 1000000
set_option maxRecDepth 8000
variable {W0 w : World} {L F : List HProp}

theorem host_ok {x : Int} (h : On W0 L w) : Calls Try.prog 32 #[.int .i64 x] w (Ret fun v w' => v = .bool (hostB x) ∧ On W0 L w') := by
  refine enter Try.func32 rfl Try.ntmps32 rfl ?_
  refine W.seq ?_
  refine W.region ?_
  refine WL.val run_assign rfl rfl ?_
  refine WL.nil ?_
  refine W.seq ?_
  refine W.region ?_
  refine WL.val run_move rfl rfl ?_
  refine WL.dec (run_geq rfl rfl) rfl rfl (fun c4 => ?_) (fun c4 => ?_)
  · skip
    refine WL.val run_move rfl rfl ?_
    refine WL.val run_move rfl rfl ?_
    refine WL.dec (run_lss rfl rfl) rfl rfl (fun c7 => ?_) (fun c7 => ?_)
    · skip
      refine WL.val (run_pickT rfl) rfl rfl ?_
      refine WL.val run_assign rfl rfl ?_
      refine WL.nil ?_
      refine W.ret ?_
      refine bodyQ.r1 (v := .bool _) Try.results32 rfl ?_
      -- path TT
      exact ⟨by rw [hostB_iff.2 ⟨by omega, by omega⟩], h⟩
    · skip
      refine WL.val (run_pickT rfl) rfl rfl ?_
      refine WL.val run_assign rfl rfl ?_
      refine WL.nil ?_
      refine W.ret ?_
      refine bodyQ.r1 (v := .bool _) Try.results32 rfl ?_
      -- path TF
      exact ⟨by rw [hostB_no.2 (by omega)], h⟩
  · skip
    refine WL.val run_move rfl rfl ?_
    refine WL.skip rfl rfl ?_
    refine WL.skip rfl rfl ?_
    refine WL.val (run_pickF rfl) rfl rfl ?_
    refine WL.val run_assign rfl rfl ?_
    refine WL.nil ?_
    refine W.ret ?_
    refine bodyQ.r1 (v := .bool _) Try.results32 rfl ?_
    -- path F
    exact ⟨by rw [hostB_no.2 (by omega)], h⟩

theorem typed_ok {x : Int} (h : On W0 L w) : Calls Try.prog 62 #[.int .i64 x] w (Ret fun v w' => v = .bool (typedB x) ∧ On W0 L w') := by
  refine enter Try.func62 rfl Try.ntmps62 rfl ?_
  refine W.seq ?_
  refine W.region ?_
  refine WL.val run_assign rfl rfl ?_
  refine WL.nil ?_
  refine W.seq ?_
  refine W.region ?_
  refine WL.val run_move rfl rfl ?_
  refine WL.dec (run_eql rfl rfl) rfl rfl (fun c4 => ?_) (fun c4 => ?_)
  · skip
    refine WL.val run_move rfl rfl ?_
    refine WL.skip rfl rfl ?_
    refine WL.skip rfl rfl ?_
    refine WL.val (run_pickT rfl) rfl rfl ?_
    refine WL.val run_move rfl rfl ?_
    refine WL.skip rfl rfl ?_
    refine WL.skip rfl rfl ?_
    refine WL.val (run_pickT rfl) rfl rfl ?_
    refine WL.val run_move rfl rfl ?_
    refine WL.skip rfl rfl ?_
    refine WL.skip rfl rfl ?_
    refine WL.val (run_pickT rfl) rfl rfl ?_
    refine WL.val run_assign rfl rfl ?_
    refine WL.nil ?_
    refine W.ret ?_
    refine bodyQ.r1 (v := .bool _) Try.results62 rfl ?_
    -- path T
    exact ⟨by rw [typedB_iff.2 (by omega)], h⟩
  · skip
    refine WL.val run_move rfl rfl ?_
    refine WL.val run_move rfl rfl ?_
    refine WL.dec (run_eql rfl rfl) rfl rfl (fun c7 => ?_) (fun c7 => ?_)
    · skip
      refine WL.val (run_pickF rfl) rfl rfl ?_
      refine WL.val run_move rfl rfl ?_
      refine WL.skip rfl rfl ?_
      refine WL.skip rfl rfl ?_
      refine WL.val (run_pickT rfl) rfl rfl ?_
      refine WL.val run_move rfl rfl ?_
      refine WL.skip rfl rfl ?_
      refine WL.skip rfl rfl ?_
      refine WL.val (run_pickT rfl) rfl rfl ?_
      refine WL.val run_assign rfl rfl ?_
      refine WL.nil ?_
      refine W.ret ?_
      refine bodyQ.r1 (v := .bool _) Try.results62 rfl ?_
      -- path FT
      exact ⟨by rw [typedB_iff.2 (by omega)], h⟩
    · skip
      refine WL.val (run_pickF rfl) rfl rfl ?_
      refine WL.val run_move rfl rfl ?_
      refine WL.val run_move rfl rfl ?_
      refine WL.dec (run_eql rfl rfl) rfl rfl (fun c11 => ?_) (fun c11 => ?_)
      · skip
        refine WL.val (run_pickF rfl) rfl rfl ?_
        refine WL.val run_move rfl rfl ?_
        refine WL.skip rfl rfl ?_
        refine WL.skip rfl rfl ?_
        refine WL.val (run_pickT rfl) rfl rfl ?_
        refine WL.val run_assign rfl rfl ?_
        refine WL.nil ?_
        refine W.ret ?_
        refine bodyQ.r1 (v := .bool _) Try.results62 rfl ?_
        -- path FFT
        exact ⟨by rw [typedB_iff.2 (by omega)], h⟩
      · skip
        refine WL.val (run_pickF rfl) rfl rfl ?_
        refine WL.val run_move rfl rfl ?_
        refine WL.val run_move rfl rfl ?_
        refine WL.dec (run_eql rfl rfl) rfl rfl (fun c15 => ?_) (fun c15 => ?_)
        · skip
          refine WL.val (run_pickF rfl) rfl rfl ?_
          refine WL.val run_assign rfl rfl ?_
          refine WL.nil ?_
          refine W.ret ?_
          refine bodyQ.r1 (v := .bool _) Try.results62 rfl ?_
          -- path FFFT
          exact ⟨by rw [typedB_iff.2 (by omega)], h⟩
        · skip
          refine WL.val (run_pickF rfl) rfl rfl ?_
          refine WL.val run_assign rfl rfl ?_
          refine WL.nil ?_
          refine W.ret ?_
          refine bodyQ.r1 (v := .bool _) Try.results62 rfl ?_
          -- path FFFF
          exact ⟨by rw [typedB_no.2 (by omega)], h⟩

theorem wrong_ok {x y : Int} (h : On W0 L w) : Calls Try.prog 19 #[.int .i64 x, .int .i64 y] w (Ret fun v w' => v = rep 2 x y ∧ On W0 L w') := by
  refine enter Try.func19 rfl Try.ntmps19 rfl ?_
  refine W.seq ?_
  refine W.region ?_
  refine WL.eff (eff_alloc h Try.zeroValue31 rfl) rfl rfl ?_
  rintro _ w ⟨b4, rfl, h⟩
  refine WL.nil ?_
  refine W.seq ?_
  refine W.region ?_
  refine WL.val run_move rfl rfl ?_
  refine WL.val run_move rfl rfl ?_
  refine WL.val (run_buildS (pl := [(0, 1), (1, 1), (2, 1), (3, 1), (4, 1)]) (out := [.int .i64 _, .int .i64 _, .int .i64 _, .slice _ _ _, .int .i64 _]) Try.underlying31 Try.zeroValue31 (fun w => by kernel_rfl) rfl (⟨⟨_, _, rfl, rfl, by decide⟩, ⟨⟨_, _, rfl, rfl, by decide⟩, ⟨⟨_, _, rfl, rfl, by decide⟩, trivial⟩⟩⟩) rfl) rfl rfl ?_
  refine WL.eff (eff_storeN (vs := [.int .i64 _, .int .i64 _, .int .i64 _, .slice _ _ _, .int .i64 _]) h Try.sizeOf31 rfl rfl rfl rfl rfl (fun k _ _ => free0 k)) rfl rfl ?_
  rintro _ w h
  try simp only [splice, List.take_zero, List.take_succ_cons, List.take_nil, List.drop_succ_cons, List.drop_zero, List.drop_nil, List.nil_append, List.cons_append, List.append_nil, List.length_cons, List.length_nil, Nat.zero_add, Nat.reduceAdd] at h
  refine WL.nil ?_
  refine W.ret ?_
  refine bodyQ.rcB (vs := [.int .i64 _, .int .i64 _, .int .i64 _, .slice _ _ _, .int .i64 _]) h Try.results19 Try.isAgg31 Try.sizeOf31 rfl rfl rfl ?_
  -- path 
  exact ⟨rfl, h.tail⟩

theorem conflict_ok (h : On W0 L w) : Calls Try.prog 58 #[] w (Ret fun v w' => v = rep 24 0 0 ∧ On W0 L w') := by
  refine enter Try.func58 rfl Try.ntmps58 rfl ?_
  refine W.seq ?_
  refine W.region ?_
  refine WL.eff (eff_alloc h Try.zeroValue31 rfl) rfl rfl ?_
  rintro _ w ⟨b0, rfl, h⟩
  refine WL.nil ?_
  refine W.seq ?_
  refine W.region ?_
  refine WL.val (run_buildS (pl := [(0, 1), (1, 1), (2, 1), (3, 1), (4, 1)]) (out := [.int .i64 _, .int .i64 _, .int .i64 _, .slice _ _ _, .int .i64 _]) Try.underlying31 Try.zeroValue31 (fun w => by kernel_rfl) rfl (⟨⟨_, _, rfl, rfl, by decide⟩, trivial⟩) rfl) rfl rfl ?_
  refine WL.eff (eff_storeN (vs := [.int .i64 _, .int .i64 _, .int .i64 _, .slice _ _ _, .int .i64 _]) h Try.sizeOf31 rfl rfl rfl rfl rfl (fun k _ _ => free0 k)) rfl rfl ?_
  rintro _ w h
  try simp only [splice, List.take_zero, List.take_succ_cons, List.take_nil, List.drop_succ_cons, List.drop_zero, List.drop_nil, List.nil_append, List.cons_append, List.append_nil, List.length_cons, List.length_nil, Nat.zero_add, Nat.reduceAdd] at h
  refine WL.nil ?_
  refine W.ret ?_
  refine bodyQ.rcB (vs := [.int .i64 _, .int .i64 _, .int .i64 _, .slice _ _ _, .int .i64 _]) h Try.results58 Try.isAgg31 Try.sizeOf31 rfl rfl rfl ?_
  -- path 
  exact ⟨rfl, h.tail⟩

theorem good_ok (h : On W0 L w) : Calls Try.prog 60 #[] w (Ret fun v w' => v = rep 0 0 0 ∧ On W0 L w') := by
  refine enter Try.func60 rfl Try.ntmps60 rfl ?_
  refine W.seq ?_
  refine W.region ?_
  refine WL.eff (eff_alloc h Try.zeroValue31 rfl) rfl rfl ?_
  rintro _ w ⟨b0, rfl, h⟩
  refine WL.nil ?_
  refine W.seq ?_
  refine W.region ?_
  refine WL.val (run_buildS (pl := [(0, 1), (1, 1), (2, 1), (3, 1), (4, 1)]) (out := [.int .i64 _, .int .i64 _, .int .i64 _, .slice _ _ _, .int .i64 _]) Try.underlying31 Try.zeroValue31 (fun w => by kernel_rfl) rfl (⟨⟨_, _, rfl, rfl, by decide⟩, trivial⟩) rfl) rfl rfl ?_
  refine WL.eff (eff_storeN (vs := [.int .i64 _, .int .i64 _, .int .i64 _, .slice _ _ _, .int .i64 _]) h Try.sizeOf31 rfl rfl rfl rfl rfl (fun k _ _ => free0 k)) rfl rfl ?_
  rintro _ w h
  try simp only [splice, List.take_zero, List.take_succ_cons, List.take_nil, List.drop_succ_cons, List.drop_zero, List.drop_nil, List.nil_append, List.cons_append, List.append_nil, List.length_cons, List.length_nil, Nat.zero_add, Nat.reduceAdd] at h
  refine WL.nil ?_
  refine W.ret ?_
  refine bodyQ.rcB (vs := [.int .i64 _, .int .i64 _, .int .i64 _, .slice _ _ _, .int .i64 _]) h Try.results60 Try.isAgg31 Try.sizeOf31 rfl rfl rfl ?_
  -- path 
  exact ⟨rfl, h.tail⟩

theorem field_ok (h : On W0 L w) : Calls Try.prog 57 #[] w (Ret fun v w' => v = rep 2 5 9216 ∧ On W0 L w') := by
  refine enter Try.func57 rfl Try.ntmps57 rfl ?_
  refine W.seq ?_
  refine W.region ?_
  refine WL.eff (eff_alloc h Try.zeroValue31 rfl) rfl rfl ?_
  rintro _ w ⟨b0, rfl, h⟩
  refine WL.nil ?_
  refine W.seq ?_
  refine W.region ?_
  refine WL.eff (eff_call Try.call19 (wrong_ok h)) rfl rfl ?_
  rintro _ w ⟨rfl, h⟩
  refine WL.eff (eff_storeN (vs := [.int .i64 _, .int .i64 _, .int .i64 _, .slice _ _ _, .int .i64 _]) h Try.sizeOf31 rfl rfl rfl rfl rfl (fun k _ _ => free0 k)) rfl rfl ?_
  rintro _ w h
  try simp only [splice, List.take_zero, List.take_succ_cons, List.take_nil, List.drop_succ_cons, List.drop_zero, List.drop_nil, List.nil_append, List.cons_append, List.append_nil, List.length_cons, List.length_nil, Nat.zero_add, Nat.reduceAdd] at h
  refine WL.nil ?_
  refine W.ret ?_
  refine bodyQ.rcB (vs := [.int .i64 _, .int .i64 _, .int .i64 _, .slice _ _ _, .int .i64 _]) h Try.results57 Try.isAgg31 Try.sizeOf31 rfl rfl rfl ?_
  -- path 
  exact ⟨rfl, h.tail⟩

theorem every_ok {k : Int} (h : On W0 L w) : Calls Try.prog 64 #[.int .u64 k] w (Ret fun v w' => v = .bool true ∧ On W0 L w') := by
  refine enter Try.func64 rfl Try.ntmps64 rfl ?_
  refine W.seq ?_
  refine W.region ?_
  refine WL.val run_assign rfl rfl ?_
  refine WL.nil ?_
  refine W.seq ?_
  refine W.region ?_
  refine WL.val run_assign rfl rfl ?_
  refine WL.nil ?_
  refine W.ret ?_
  refine bodyQ.r1 (v := .bool _) Try.results64 rfl ?_
  -- path 
  exact ⟨rfl, h⟩

theorem regs_ok {b : Nat} {t : Tb} (h : On W0 (blk b t.cells 93 :: L) w) : Calls Try.prog 31 #[.pointer (some ⟨b, 0, none⟩)] w (Ret fun v w' => v = .bool t.regsB ∧ On W0 (blk b t.cells 93 :: L) w') := by
  refine enter Try.func31 rfl Try.ntmps31 rfl ?_
  refine W.seq ?_
  refine W.region ?_
  refine WL.val run_assign rfl rfl ?_
  refine WL.nil ?_
  refine W.seq ?_
  refine W.region ?_
  refine WL.val run_move rfl rfl ?_
  refine WL.val (run_nilCheck rfl) rfl rfl ?_
  refine WL.val (run_fieldAddr 9 Try.underlying93 rfl Try.sizeOf3 rfl rfl) rfl rfl ?_
  refine WL.val (run_load1 Try.isAgg3 rfl (h.cellB rfl)) rfl rfl ?_
  refine WL.dec (run_eql rfl rfl) rfl rfl (fun c7 => ?_) (fun c7 => ?_)
  · skip
    refine WL.val run_move rfl rfl ?_
    refine WL.skip rfl rfl ?_
    refine WL.skip rfl rfl ?_
    refine WL.skip rfl rfl ?_
    refine WL.skip rfl rfl ?_
    refine WL.skip rfl rfl ?_
    refine WL.val (run_pickT rfl) rfl rfl ?_
    refine WL.val run_assign rfl rfl ?_
    refine WL.nil ?_
    refine W.ret ?_
    refine bodyQ.r1 (v := .bool _) Try.results31 rfl ?_
    -- path T
    exact ⟨by rw [Tb.regsB_iff.2 (by omega)], h⟩
  · skip
    refine WL.val run_move rfl rfl ?_
    refine WL.val run_move rfl rfl ?_
    refine WL.val (run_nilCheck rfl) rfl rfl ?_
    refine WL.val (run_fieldAddr 9 Try.underlying93 rfl Try.sizeOf3 rfl rfl) rfl rfl ?_
    refine WL.val (run_load1 Try.isAgg3 rfl (h.cellB rfl)) rfl rfl ?_
    refine WL.dec (run_eql rfl rfl) rfl rfl (fun c13 => ?_) (fun c13 => ?_)
    · skip
      refine WL.val (run_pickF rfl) rfl rfl ?_
      refine WL.val run_assign rfl rfl ?_
      refine WL.nil ?_
      refine W.ret ?_
      refine bodyQ.r1 (v := .bool _) Try.results31 rfl ?_
      -- path FT
      exact ⟨by rw [Tb.regsB_iff.2 (by omega)], h⟩
    · skip
      refine WL.val (run_pickF rfl) rfl rfl ?_
      refine WL.val run_assign rfl rfl ?_
      refine WL.nil ?_
      refine W.ret ?_
      refine bodyQ.r1 (v := .bool _) Try.results31 rfl ?_
      -- path FF
      exact ⟨by rw [show t.regsB = false by rw [← Bool.not_eq_true, Tb.regsB_iff]; omega], h⟩

theorem clip_notes {a : Option Addr} {n c : Nat} {xs : List Value} (h : On W0 (Own 2 (.slice a n c) n xs :: L) w) :
    Calls Try.prog 71 #[.slice a n c] w (Ret fun v w' => v = .slice a n n ∧ On W0 (Own 2 (.slice a n n) n xs :: L) w') := by
  refine enter Try.func71 rfl Try.ntmps71 rfl ?_
  have ob_ := Own.form h
  obtain ⟨a', c', hv, hnc, hcm, hnone⟩ := ob_
  simp only [Value.slice.injEq] at hv
  obtain ⟨rfl, _, rfl⟩ := hv
  refine W.seq ?_
  refine W.region ?_
  refine WL.val run_assign rfl rfl ?_
  refine WL.nil ?_
  refine W.seq ?_
  refine W.region ?_
  refine WL.val run_move rfl rfl ?_
  refine WL.val run_move rfl rfl ?_
  refine WL.val (run_lenSlice Try.underlying105 rfl) rfl rfl ?_
  refine WL.val run_move rfl rfl ?_
  refine WL.val (run_lenSlice Try.underlying105 rfl) rfl rfl ?_
  refine WL.val (run_cutHM Try.underlying105 Try.sizeOf127 rfl rfl rfl  (by omega) (by omega)) rfl rfl ?_
  refine WL.val run_assign rfl rfl ?_
  refine WL.nil ?_
  refine W.ret ?_
  refine bodyQ.r1 (v := .slice _ _ _) Try.results71 rfl ?_
  -- path 
  exact ⟨rfl, Own.clip h⟩

theorem clip_keys {a : Option Addr} {n c : Nat} {xs : List Value} (h : On W0 (Own 1 (.slice a n c) n xs :: L) w) :
    Calls Try.prog 66 #[.slice a n c] w (Ret fun v w' => v = .slice a n n ∧ On W0 (Own 1 (.slice a n n) n xs :: L) w') := by
  refine enter Try.func66 rfl Try.ntmps66 rfl ?_
  have ob_ := Own.form h
  obtain ⟨a', c', hv, hnc, hcm, hnone⟩ := ob_
  simp only [Value.slice.injEq] at hv
  obtain ⟨rfl, _, rfl⟩ := hv
  refine W.seq ?_
  refine W.region ?_
  refine WL.val run_assign rfl rfl ?_
  refine WL.nil ?_
  refine W.seq ?_
  refine W.region ?_
  refine WL.val run_move rfl rfl ?_
  refine WL.val run_move rfl rfl ?_
  refine WL.val (run_lenSlice Try.underlying114 rfl) rfl rfl ?_
  refine WL.val run_move rfl rfl ?_
  refine WL.val (run_lenSlice Try.underlying114 rfl) rfl rfl ?_
  refine WL.val (run_cutHM Try.underlying114 Try.sizeOf24 rfl rfl rfl  (by omega) (by omega)) rfl rfl ?_
  refine WL.val run_assign rfl rfl ?_
  refine WL.nil ?_
  refine W.ret ?_
  refine bodyQ.r1 (v := .slice _ _ _) Try.results66 rfl ?_
  -- path 
  exact ⟨rfl, Own.clip h⟩

theorem others_ok {b : Nat} {t : Tb} {hh code : Int} {f : FuncId} {caps : Array Value} {p : Int → Bool} (h : On W0 (blk b t.cells 93 :: L) w) (hf : ∀ args w, (callFunc f args).run Try.prog w = .ok (.enter f args) w)
    (hg : ∀ (k : Int) (A : HProp) (w : World), On W0 (A :: blk b t.cells 93 :: L) w → Calls Try.prog f (#[.int .u64 k] ++ caps) w (Ret fun v w' => v = .bool (p k) ∧ On W0 (A :: blk b t.cells 93 :: L) w')) :
    Calls Try.prog 63 #[.pointer (some ⟨b, 0, none⟩), .int .i64 hh, .int .i64 code, .func (.func f) #[] caps] w (Ret fun v w' => ∃ a, v = .slice a (hostsN t.K hh p 8).length (hostsN t.K hh p 8).length ∧ On W0 (Own 2 (.slice a (hostsN t.K hh p 8).length (hostsN t.K hh p 8).length) (hostsN t.K hh p 8).length (notesV code (hostsN t.K hh p 8)) :: blk b t.cells 93 :: L) w') := by
  refine enter Try.func63 rfl Try.ntmps63 rfl ?_
  have hmx := maxLen_eq
  refine W.seq ?_
  refine W.region ?_
  refine WL.val run_assign rfl rfl ?_
  refine WL.nil ?_
  refine W.scope ?_
  refine W.seq ?_
  refine W.region ?_
  refine WL.val run_assign rfl rfl ?_
  refine WL.nil ?_
  refine W.seq ?_
  refine W.label ?_
  refine W.seq ?_
  refine W.seq ?_
  refine W.region ?_
  refine WL.val run_move rfl rfl ?_
  refine WL.val (run_nilCheck rfl) rfl rfl ?_
  refine WL.val (run_fieldAddr 0 Try.underlying93 rfl Try.sizeOf90 rfl rfl) rfl rfl ?_
  refine WL.val (run_loadB (vs := [.int .u64 _, .int .u64 _, .int .u64 _, .int .u64 _, .int .u64 _, .int .u64 _, .int .u64 _, .int .u64 _]) h Try.isAgg90 Try.sizeOf90 rfl rfl rfl) rfl rfl ?_
  refine WL.val run_move rfl rfl ?_
  refine WL.nil ?_
  refine W.block ?_
  refine W.loop (fun (i : Nat) env w => ∃ j a c, env = mkE j [(0, .pointer (some ⟨b, 0, none⟩)), (1, .int .i64 hh), (2, .int .i64 code), (3, .func (.func f) #[] caps), (9, .slice a (hostsN t.K hh p i).length c), (15, .agg (keysV t.K).toArray), (16, .int .i64 (i : Int))] ∧ i ≤ 8 ∧ On W0 (Own 2 (.slice a (hostsN t.K hh p i).length c) (hostsN t.K hh p i).length (notesV code (hostsN t.K hh p i)) :: blk b t.cells 93 :: L) w) (fun i => 8 - i) (0) ?_ ?_
  · exact ⟨_, none, 0, mkE_of ⟨rfl, rfl, rfl, rfl, rfl, rfl, rfl, trivial⟩, Nat.zero_le _, h.ownEmpty 2 none⟩
  · rintro i env w ⟨j, a, c, rfl, hi, h⟩
    have hlen := hostsN_len t.K hh p i
    refine W.seq ?_
    refine W.region ?_
    refine WL.val (run_lss rfl rfl) rfl rfl ?_
    refine WL.nil ?_
    refine W.seq ?_
    refine W.condIf rfl (fun c8 => ?_) (fun c8 => ?_)
    · skip
      refine W.skip ?_
      refine W.seq ?_
      refine W.block ?_
      refine W.seq ?_
      refine W.region ?_
      refine WL.val run_move rfl rfl ?_
      refine WL.val (run_indexArr Try.underlying90 Try.sizeOf24 Try.isAgg24 rfl rfl (by omega) (by omega) (keysV_key (i := i) (by omega))) rfl rfl ?_
      refine WL.val run_assign rfl rfl ?_
      refine WL.val run_assign rfl rfl ?_
      refine WL.nil ?_
      refine W.seq ?_
      refine W.seq ?_
      refine W.region ?_
      refine WL.val run_move rfl rfl ?_
      refine WL.val run_move rfl rfl ?_
      refine WL.dec (run_eql rfl rfl) rfl rfl (fun c22 => ?_) (fun c22 => ?_)
      · skip
        refine WL.val run_move rfl rfl ?_
        refine WL.skip rfl rfl ?_
        refine WL.skip rfl rfl ?_
        refine WL.val (run_pickT rfl) rfl rfl ?_
        refine WL.val run_move rfl rfl ?_
        refine WL.skip rfl rfl ?_
        refine WL.skip rfl rfl ?_
        refine WL.skip rfl rfl ?_
        refine WL.skip rfl rfl ?_
        refine WL.val (run_pickT rfl) rfl rfl ?_
        refine WL.nil ?_
        refine W.condT rfl ?_
        refine W.exit ?_
        refine W.region ?_
        refine WL.val (run_incN rfl rfl (by omega)) rfl rfl ?_
        refine WL.val run_move rfl rfl ?_
        refine WL.nil ?_
        -- round, path LTT
        have e : hostsN t.K hh p (i + 1) = hostsN t.K hh p i := by rw [hostsN_succ, if_pos (.inl (by omega)), List.append_nil]
        exact ⟨i + 1, ⟨_, a, c, mkE_of ⟨rfl, rfl, rfl, rfl, (by rw [e]; rfl), rfl, rfl, trivial⟩, by omega, (by rw [e]; exact h.to)⟩, by show 8 - (i + 1) < 8 - i; omega⟩
      · skip
        refine WL.val run_move rfl rfl ?_
        refine WL.val run_move rfl rfl ?_
        refine WL.dec (run_eql rfl rfl) rfl rfl (fun c25 => ?_) (fun c25 => ?_)
        · skip
          refine WL.val (run_pickF rfl) rfl rfl ?_
          refine WL.val run_move rfl rfl ?_
          refine WL.skip rfl rfl ?_
          refine WL.skip rfl rfl ?_
          refine WL.skip rfl rfl ?_
          refine WL.skip rfl rfl ?_
          refine WL.val (run_pickT rfl) rfl rfl ?_
          refine WL.nil ?_
          refine W.condT rfl ?_
          refine W.exit ?_
          refine W.region ?_
          refine WL.val (run_incN rfl rfl (by omega)) rfl rfl ?_
          refine WL.val run_move rfl rfl ?_
          refine WL.nil ?_
          -- round, path LTFT
          have e : hostsN t.K hh p (i + 1) = hostsN t.K hh p i := by rw [hostsN_succ, if_pos (.inr (.inl (by omega))), List.append_nil]
          exact ⟨i + 1, ⟨_, a, c, mkE_of ⟨rfl, rfl, rfl, rfl, (by rw [e]; rfl), rfl, rfl, trivial⟩, by omega, (by rw [e]; exact h.to)⟩, by show 8 - (i + 1) < 8 - i; omega⟩
        · skip
          refine WL.val (run_pickF rfl) rfl rfl ?_
          refine WL.val run_move rfl rfl ?_
          refine WL.val run_move rfl rfl ?_
          refine WL.val run_move rfl rfl ?_
          refine WL.eff (eff_callV (xs := [_]) rfl hf (hg _ _ _ h)) rfl rfl ?_
          rintro _ w ⟨rfl, h⟩
          refine WL.val (run_not rfl) rfl rfl ?_
          refine WL.val (run_pickF rfl) rfl rfl ?_
          refine WL.nil ?_
          refine W.condB rfl (fun c14 => ?_) (fun c14 => ?_)
          · skip
            refine W.exit ?_
            refine W.region ?_
            refine WL.val (run_incN rfl rfl (by omega)) rfl rfl ?_
            refine WL.val run_move rfl rfl ?_
            refine WL.nil ?_
            -- round, path LTFFT
            have e : hostsN t.K hh p (i + 1) = hostsN t.K hh p i := by rw [hostsN_succ, if_pos (by simp at c14; exact .inr (.inr c14)), List.append_nil]
            exact ⟨i + 1, ⟨_, a, c, mkE_of ⟨rfl, rfl, rfl, rfl, (by rw [e]; rfl), rfl, rfl, trivial⟩, by omega, (by rw [e]; exact h.to)⟩, by show 8 - (i + 1) < 8 - i; omega⟩
          · skip
            refine W.skip ?_
            refine W.region ?_
            refine WL.val run_move rfl rfl ?_
            refine WL.val run_move rfl rfl ?_
            refine WL.val run_move rfl rfl ?_
            refine WL.val (run_buildS (pl := [(0, 1), (1, 1)]) (out := [.int .i64 _, .int .i64 _]) Try.underlying127 Try.zeroValue127 (fun w => by kernel_rfl) rfl (⟨⟨_, _, rfl, rfl, by decide⟩, ⟨⟨_, _, rfl, rfl, by decide⟩, trivial⟩⟩) rfl) rfl rfl ?_
            refine WL.eff (eff_mkSlice (zl := [.int .i64 0, .int .i64 0]) (out := [.int .i64 _, .int .i64 _]) h Try.underlying105 Try.sizeOf127 Try.zeroValue127 (by decide) (by kernel_rfl) rfl rfl (by simp) (⟨⟨_, _, rfl, rfl, by decide⟩, trivial⟩) rfl rfl (by simp [maxLen])) rfl rfl ?_
            rintro _ w ⟨b37, rfl, h⟩
            refine WL.eff (eff_app (c2 := 1) (bytes := 16) h rfl rfl (h.cellsO (v := .slice (some ⟨b37, 0, none⟩) 1 1)) Try.underlying105 rfl rfl rfl rfl rfl (by omega) (by omega) (by simp [Value.oneCell'])) rfl rfl ?_
            rintro _ w ⟨a38, c38, rfl, h⟩
            have h : On W0 (Own 2 (.slice a38 ((hostsN t.K hh p i).length + 1) c38) ((hostsN t.K hh p i).length + 1) (notesV code (hostsN t.K hh p i) ++ noteV code i) :: _) w := h
            refine WL.val run_assign rfl rfl ?_
            refine WL.nil ?_
            refine W.region ?_
            refine WL.val (run_incN rfl rfl (by omega)) rfl rfl ?_
            refine WL.val run_move rfl rfl ?_
            refine WL.nil ?_
            -- round, path LTFFF
            have e : hostsN t.K hh p (i + 1) = hostsN t.K hh p i ++ [i] := by rw [hostsN_succ, if_neg (by simp at c14; rintro (h1 | h1 | h1); exact c22 h1; exact c25 h1; rw [c14] at h1; cases h1)]
            have el : (hostsN t.K hh p (i + 1)).length = (hostsN t.K hh p i).length + 1 := by rw [e, List.length_append]; rfl
            exact ⟨i + 1, ⟨_, a38, c38, mkE_of ⟨rfl, rfl, rfl, rfl, (by rw [el]; rfl), rfl, rfl, trivial⟩, by omega, (by rw [el, e, ← notesV_snoc]; exact h.to)⟩, by show 8 - (i + 1) < 8 - i; omega⟩
    · skip
      refine W.exit ?_
      refine W.seq ?_
      refine W.region ?_
      refine WL.val run_move rfl rfl ?_
      refine WL.eff (eff_call Try.call71 (clip_notes h)) rfl rfl ?_
      rintro _ w ⟨rfl, h⟩
      refine WL.val run_assign rfl rfl ?_
      refine WL.nil ?_
      refine W.ret ?_
      refine bodyQ.r1 (v := .slice _ _ _) Try.results63 rfl ?_
      -- path LF
      have ob_ : i = 8 := by omega
      obtain rfl := ob_
      exact ⟨a, rfl, h⟩

theorem drop_ok {b : Nat} {t : Tb} {hh : Int} (h : On W0 (blk b t.cells 93 :: L) w) : Calls Try.prog 59 #[.pointer (some ⟨b, 0, none⟩), .int .i64 hh] w (Ret fun v w' => ∃ a, v = .slice a (t.told hh).length (t.told hh).length ∧ On W0 (Own 2 (.slice a (t.told hh).length (t.told hh).length) (t.told hh).length (notesV 10756 (t.told hh)) :: blk b t.freed.cells 93 :: L) w') := by
  refine enter Try.func59 rfl Try.ntmps59 rfl ?_
  refine W.seq ?_
  refine W.region ?_
  refine WL.val run_assign rfl rfl ?_
  refine WL.nil ?_
  refine W.seq ?_
  refine W.region ?_
  refine WL.val run_assign rfl rfl ?_
  refine WL.nil ?_
  refine W.seq ?_
  refine W.seq ?_
  refine W.region ?_
  refine WL.val run_move rfl rfl ?_
  refine WL.eff (eff_call Try.call31 (regs_ok h)) rfl rfl ?_
  rintro _ w ⟨rfl, h⟩
  refine WL.nil ?_
  refine W.condB rfl (fun c3 => ?_) (fun c3 => ?_)
  · skip
    refine W.region ?_
    refine WL.val run_move rfl rfl ?_
    refine WL.val run_move rfl rfl ?_
    refine WL.eff (eff_call Try.call63 (others_ok (hh := hh) (code := 10756) (f := 64) (caps := #[]) (p := (fun _ => true)) h Try.call64 (fun k A w h => every_ok h))) rfl rfl ?_
    rintro _ w ⟨a, rfl, h⟩
    have e : t.told hh = hostsN t.K hh (fun _ => true) 8 := by unfold Tb.told; rw [if_pos c3]
    rw [← e] at h
    refine WL.val run_assign rfl rfl ?_
    refine WL.nil ?_
    refine W.seq ?_
    refine W.region ?_
    refine WL.val run_move rfl rfl ?_
    refine WL.val run_move rfl rfl ?_
    refine WL.val (run_nilCheck rfl) rfl rfl ?_
    refine WL.val (run_fieldAddr 8 Try.underlying93 rfl Try.sizeOf3 rfl rfl) rfl rfl ?_
    refine WL.eff (eff_store (v := .int .i64 _) h Try.sizeOf3 rfl rfl rfl rfl rfl) rfl rfl ?_
    rintro _ w h
    try simp only [Nat.zero_add, Nat.add_zero, List.set_cons_zero, List.set_cons_succ] at h
    refine WL.val (run_nilCheck rfl) rfl rfl ?_
    refine WL.val (run_fieldAddr 9 Try.underlying93 rfl Try.sizeOf3 rfl rfl) rfl rfl ?_
    refine WL.eff (eff_store (v := .int .i64 _) h Try.sizeOf3 rfl rfl rfl rfl rfl) rfl rfl ?_
    rintro _ w h
    try simp only [Nat.zero_add, Nat.add_zero, List.set_cons_zero, List.set_cons_succ] at h
    refine WL.nil ?_
    refine W.seq ?_
    refine W.region ?_
    refine WL.val run_move rfl rfl ?_
    refine WL.val run_assign rfl rfl ?_
    refine WL.nil ?_
    refine W.ret ?_
    refine bodyQ.r1 (v := .slice _ _ _) Try.results59 rfl ?_
    -- path T
    exact ⟨a, by rw [e], h⟩
  · skip
    have e : t.told hh = [] := by unfold Tb.told; rw [c3]; rfl
    have h := h.ownEmpty 2 none
    refine W.skip ?_
    refine W.seq ?_
    refine W.region ?_
    refine WL.val run_move rfl rfl ?_
    refine WL.val run_move rfl rfl ?_
    refine WL.val (run_nilCheck rfl) rfl rfl ?_
    refine WL.val (run_fieldAddr 8 Try.underlying93 rfl Try.sizeOf3 rfl rfl) rfl rfl ?_
    refine WL.eff (eff_store (v := .int .i64 _) h Try.sizeOf3 rfl rfl rfl rfl rfl) rfl rfl ?_
    rintro _ w h
    try simp only [Nat.zero_add, Nat.add_zero, List.set_cons_zero, List.set_cons_succ] at h
    refine WL.val (run_nilCheck rfl) rfl rfl ?_
    refine WL.val (run_fieldAddr 9 Try.underlying93 rfl Try.sizeOf3 rfl rfl) rfl rfl ?_
    refine WL.eff (eff_store (v := .int .i64 _) h Try.sizeOf3 rfl rfl rfl rfl rfl) rfl rfl ?_
    rintro _ w h
    try simp only [Nat.zero_add, Nat.add_zero, List.set_cons_zero, List.set_cons_succ] at h
    refine WL.nil ?_
    refine W.seq ?_
    refine W.region ?_
    refine WL.val run_move rfl rfl ?_
    refine WL.val run_assign rfl rfl ?_
    refine WL.nil ?_
    refine W.ret ?_
    refine bodyQ.r1 (v := .slice _ _ _) Try.results59 rfl ?_
    -- path F
    rw [e]
    exact ⟨none, rfl, h⟩

theorem may_ok {b : Nat} {t : Tb} {hh key : Int} (h : On W0 (blk b t.cells 93 :: L) w) : Calls Try.prog 61 #[.pointer (some ⟨b, 0, none⟩), .int .i64 hh, .int .u64 key] w (Ret fun v w' => ((okM t hh key ∧ v = .tuple #[rep 0 0 0, .bool true]) ∨ (¬ okM t hh key ∧ ∃ s k c, v = .tuple #[rep s k c, .bool false] ∧ (0 ≤ hh → hh < 8 → s = 24))) ∧ On W0 (blk b t.cells 93 :: L) w') := by
  refine enter Try.func61 rfl Try.ntmps61 rfl ?_
  refine W.seq ?_
  refine W.region ?_
  refine WL.eff (eff_alloc h Try.zeroValue31 rfl) rfl rfl ?_
  rintro _ w ⟨b6, rfl, h⟩
  refine WL.val run_assign rfl rfl ?_
  refine WL.nil ?_
  refine W.seq ?_
  refine W.block ?_
  refine W.seq ?_
  refine W.region ?_
  refine WL.val run_move rfl rfl ?_
  refine WL.eff (eff_call Try.call32 (host_ok h)) rfl rfl ?_
  rintro _ w ⟨hv, h⟩
  have hcs := Bool.eq_false_or_eq_true (hostB hh)
  rcases hcs with hb | hb <;> (rw [hb] at hv; subst hv)
  · skip
    refine WL.val (run_not rfl) rfl rfl ?_
    refine WL.val run_assign rfl rfl ?_
    refine WL.nil ?_
    refine W.condF rfl ?_
    refine W.seq ?_
    have ob_ := hostB_iff.1 hb
    obtain ⟨hi0, hi8⟩ := ob_
    have ob_ := Int.eq_ofNat_of_zero_le hi0
    obtain ⟨i, rfl⟩ := ob_
    have hi : i < 8 := by omega
    refine W.region ?_
    refine WL.val run_move rfl rfl ?_
    refine WL.val run_move rfl rfl ?_
    refine WL.val (run_nilCheck rfl) rfl rfl ?_
    refine WL.val (run_fieldAddr 0 Try.underlying93 rfl Try.sizeOf90 rfl rfl) rfl rfl ?_
    refine WL.val (run_indexAddrArr Try.underlying90 Try.sizeOf24 rfl rfl (by omega) (by omega)) rfl rfl ?_
    refine WL.val (run_load1 Try.isAgg24 rfl (h.cellB (cells_at hi))) rfl rfl ?_
    refine WL.dec (run_eql rfl rfl) rfl rfl (fun c20 => ?_) (fun c20 => ?_)
    · skip
      refine WL.val run_move rfl rfl ?_
      refine WL.skip rfl rfl ?_
      refine WL.skip rfl rfl ?_
      refine WL.skip rfl rfl ?_
      refine WL.skip rfl rfl ?_
      refine WL.skip rfl rfl ?_
      refine WL.skip rfl rfl ?_
      refine WL.skip rfl rfl ?_
      refine WL.skip rfl rfl ?_
      refine WL.val (run_pickT rfl) rfl rfl ?_
      refine WL.val run_assign rfl rfl ?_
      refine WL.nil ?_
      refine W.condT rfl ?_
      refine W.seq ?_
      refine W.region ?_
      refine WL.eff (eff_call Try.call58 (conflict_ok h)) rfl rfl ?_
      rintro _ w ⟨rfl, h⟩
      refine WL.eff (eff_storeN (vs := [.int .i64 _, .int .i64 _, .int .i64 _, .slice _ _ _, .int .i64 _]) h Try.sizeOf31 rfl rfl rfl rfl rfl (fun k _ _ => free0 k)) rfl rfl ?_
      rintro _ w h
      try simp only [splice, List.take_zero, List.take_succ_cons, List.take_nil, List.drop_succ_cons, List.drop_zero, List.drop_nil, List.nil_append, List.cons_append, List.append_nil, List.length_cons, List.length_nil, Nat.zero_add, Nat.reduceAdd] at h
      refine WL.val run_assign rfl rfl ?_
      refine WL.nil ?_
      refine W.ret ?_
      refine bodyQ.rctB (vs := [.int .i64 _, .int .i64 _, .int .i64 _, .slice _ _ _, .int .i64 _]) (v2 := .bool _) h Try.results61 Try.isAgg31 Try.sizeOf31 rfl rfl rfl rfl ?_
      -- path TT
      exact ⟨.inr ⟨(by rintro ⟨j, hj, _, h2, _⟩; have hj2 : i = j := Int.ofNat.inj hj; subst hj2; exact h2 (by omega)), 24, 0, 0, rfl, fun _ _ => rfl⟩, h.to⟩
    · skip
      refine WL.val run_move rfl rfl ?_
      refine WL.val run_move rfl rfl ?_
      refine WL.val run_move rfl rfl ?_
      refine WL.val (run_nilCheck rfl) rfl rfl ?_
      refine WL.val (run_fieldAddr 0 Try.underlying93 rfl Try.sizeOf90 rfl rfl) rfl rfl ?_
      refine WL.val (run_indexAddrArr Try.underlying90 Try.sizeOf24 rfl rfl (by omega) (by omega)) rfl rfl ?_
      refine WL.val (run_load1 Try.isAgg24 rfl (h.cellB (cells_at hi))) rfl rfl ?_
      refine WL.val run_move rfl rfl ?_
      refine WL.val (run_neq rfl rfl) rfl rfl ?_
      refine WL.val (run_pickF rfl) rfl rfl ?_
      refine WL.val run_assign rfl rfl ?_
      refine WL.nil ?_
      refine W.condIf rfl (fun c7 => ?_) (fun c7 => ?_)
      · skip
        refine W.seq ?_
        refine W.region ?_
        refine WL.eff (eff_call Try.call58 (conflict_ok h)) rfl rfl ?_
        rintro _ w ⟨rfl, h⟩
        refine WL.eff (eff_storeN (vs := [.int .i64 _, .int .i64 _, .int .i64 _, .slice _ _ _, .int .i64 _]) h Try.sizeOf31 rfl rfl rfl rfl rfl (fun k _ _ => free0 k)) rfl rfl ?_
        rintro _ w h
        try simp only [splice, List.take_zero, List.take_succ_cons, List.take_nil, List.drop_succ_cons, List.drop_zero, List.drop_nil, List.nil_append, List.cons_append, List.append_nil, List.length_cons, List.length_nil, Nat.zero_add, Nat.reduceAdd] at h
        refine WL.val run_assign rfl rfl ?_
        refine WL.nil ?_
        refine W.ret ?_
        refine bodyQ.rctB (vs := [.int .i64 _, .int .i64 _, .int .i64 _, .slice _ _ _, .int .i64 _]) (v2 := .bool _) h Try.results61 Try.isAgg31 Try.sizeOf31 rfl rfl rfl rfl ?_
        -- path TFT
        exact ⟨.inr ⟨(by rintro ⟨j, hj, _, h2, h3⟩; have hj2 : i = j := Int.ofNat.inj hj; subst hj2; omega), 24, 0, 0, rfl, fun _ _ => rfl⟩, h.to⟩
      · skip
        refine W.skip ?_
        refine W.seq ?_
        refine W.region ?_
        refine WL.eff (eff_call Try.call60 (good_ok h)) rfl rfl ?_
        rintro _ w ⟨rfl, h⟩
        refine WL.eff (eff_storeN (vs := [.int .i64 _, .int .i64 _, .int .i64 _, .slice _ _ _, .int .i64 _]) h Try.sizeOf31 rfl rfl rfl rfl rfl (fun k _ _ => free0 k)) rfl rfl ?_
        rintro _ w h
        try simp only [splice, List.take_zero, List.take_succ_cons, List.take_nil, List.drop_succ_cons, List.drop_zero, List.drop_nil, List.nil_append, List.cons_append, List.append_nil, List.length_cons, List.length_nil, Nat.zero_add, Nat.reduceAdd] at h
        refine WL.val run_assign rfl rfl ?_
        refine WL.nil ?_
        refine W.ret ?_
        refine bodyQ.rctB (vs := [.int .i64 _, .int .i64 _, .int .i64 _, .slice _ _ _, .int .i64 _]) (v2 := .bool _) h Try.results61 Try.isAgg31 Try.sizeOf31 rfl rfl rfl rfl ?_
        -- path TFF
        exact ⟨.inl ⟨⟨i, rfl, hi, by omega, by omega⟩, rfl⟩, h.to⟩
  · skip
    refine WL.val (run_not rfl) rfl rfl ?_
    refine WL.val run_assign rfl rfl ?_
    refine WL.nil ?_
    refine W.condT rfl ?_
    refine W.seq ?_
    refine W.region ?_
    refine WL.eff (eff_call Try.call57 (field_ok h)) rfl rfl ?_
    rintro _ w ⟨rfl, h⟩
    refine WL.eff (eff_storeN (vs := [.int .i64 _, .int .i64 _, .int .i64 _, .slice _ _ _, .int .i64 _]) h Try.sizeOf31 rfl rfl rfl rfl rfl (fun k _ _ => free0 k)) rfl rfl ?_
    rintro _ w h
    try simp only [splice, List.take_zero, List.take_succ_cons, List.take_nil, List.drop_succ_cons, List.drop_zero, List.drop_nil, List.nil_append, List.cons_append, List.append_nil, List.length_cons, List.length_nil, Nat.zero_add, Nat.reduceAdd] at h
    refine WL.val run_assign rfl rfl ?_
    refine WL.nil ?_
    refine W.ret ?_
    refine bodyQ.rctB (vs := [.int .i64 _, .int .i64 _, .int .i64 _, .slice _ _ _, .int .i64 _]) (v2 := .bool _) h Try.results61 Try.isAgg31 Try.sizeOf31 rfl rfl rfl rfl ?_
    -- path F
    have hb2 := hostB_no.1 hb
    exact ⟨.inr ⟨(by rintro ⟨i, rfl, h1, _⟩; omega), 2, 5, 9216, rfl, fun h1 h2 => (by omega)⟩, h.to⟩

end Go.Proofs.Ytdpakoefdpmebaa
