/-
  A unit: two commands in order: the contracts. Lines of walks printed by a program of the prover's.
-/
import Derived.Test.YtdpakoefdpmebaaTrace4
import Derived.Test.YtdpakoefdpmebaaTraceLaw
namespace Go.Proofs.Ytdpakoefdpmebaa
open Go Go.Sl Go.Sl.TrM Go.Sl.BitM Go.Sl.SpM Go.Sl.RsM Go.Sl.ByM Go.Sl.UnM
set_option linter.unusedVariables false
set_option linter.unusedSimpArgs false
set_option maxHeartbeats 1000000
set_option maxRecDepth 8000
variable {W0 w : World} {L F : List HProp}

theorem torders_law {a_ b_ c_ d_ : Int} (h : On W0 F w) : Calls Try.prog 3 #[.int .i64 a_, .int .i64 b_, .int .i64 c_, .int .i64 d_] w (Ret fun v w' => v = .bool true ∧ On W0 F w') := by
  refine enter Try.func3 rfl Try.ntmps3 rfl ?_
  have hmx := maxLen_eq
  refine W.seq ?_
  refine W.region ?_
  refine WL.val run_assign rfl rfl ?_
  refine WL.nil ?_
  refine W.seq ?_
  refine W.seq ?_
  refine W.region ?_
  refine WL.eff (eff_call Try.call4 (tknown_ok h)) rfl rfl ?_
  rintro _ w ⟨rfl, h⟩
  refine WL.val (run_not rfl) rfl rfl ?_
  refine WL.nil ?_
  refine W.condF rfl ?_
  refine W.skip ?_
  refine W.seq ?_
  refine W.seq ?_
  refine W.region ?_
  refine WL.val run_move rfl rfl ?_
  refine WL.dec (run_lss rfl rfl) rfl rfl (fun c24 => ?_) (fun c24 => ?_)
  · skip
    refine WL.val run_move rfl rfl ?_
    refine WL.skip rfl rfl ?_
    refine WL.skip rfl rfl ?_
    refine WL.skip rfl rfl ?_
    refine WL.val (run_pickT rfl) rfl rfl ?_
    refine WL.val run_move rfl rfl ?_
    refine WL.skip rfl rfl ?_
    refine WL.skip rfl rfl ?_
    refine WL.skip rfl rfl ?_
    refine WL.val (run_pickT rfl) rfl rfl ?_
    refine WL.val run_move rfl rfl ?_
    refine WL.skip rfl rfl ?_
    refine WL.skip rfl rfl ?_
    refine WL.skip rfl rfl ?_
    refine WL.val (run_pickT rfl) rfl rfl ?_
    refine WL.val run_move rfl rfl ?_
    refine WL.skip rfl rfl ?_
    refine WL.skip rfl rfl ?_
    refine WL.val (run_pickT rfl) rfl rfl ?_
    refine WL.nil ?_
    refine W.condT rfl ?_
    refine W.seq ?_
    refine W.region ?_
    refine WL.val run_assign rfl rfl ?_
    refine WL.nil ?_
    refine W.ret ?_
    refine bodyQ.r1 (v := .bool _) Try.results3 rfl ?_
    -- path T
    exact ⟨rfl, h⟩
  · skip
    refine WL.val run_move rfl rfl ?_
    refine WL.val run_move rfl rfl ?_
    refine WL.val run_move rfl rfl ?_
    refine WL.dec (run_lss rfl rfl) rfl rfl (fun c28 => ?_) (fun c28 => ?_)
    · skip
      refine WL.val (run_pickF rfl) rfl rfl ?_
      refine WL.val run_move rfl rfl ?_
      refine WL.skip rfl rfl ?_
      refine WL.skip rfl rfl ?_
      refine WL.skip rfl rfl ?_
      refine WL.val (run_pickT rfl) rfl rfl ?_
      refine WL.val run_move rfl rfl ?_
      refine WL.skip rfl rfl ?_
      refine WL.skip rfl rfl ?_
      refine WL.skip rfl rfl ?_
      refine WL.val (run_pickT rfl) rfl rfl ?_
      refine WL.val run_move rfl rfl ?_
      refine WL.skip rfl rfl ?_
      refine WL.skip rfl rfl ?_
      refine WL.val (run_pickT rfl) rfl rfl ?_
      refine WL.nil ?_
      refine W.condT rfl ?_
      refine W.seq ?_
      refine W.region ?_
      refine WL.val run_assign rfl rfl ?_
      refine WL.nil ?_
      refine W.ret ?_
      refine bodyQ.r1 (v := .bool _) Try.results3 rfl ?_
      -- path FT
      exact ⟨rfl, h⟩
    · skip
      refine WL.val (run_pickF rfl) rfl rfl ?_
      refine WL.val run_move rfl rfl ?_
      refine WL.val run_move rfl rfl ?_
      refine WL.val run_move rfl rfl ?_
      refine WL.dec (run_leq rfl rfl) rfl rfl (fun c33 => ?_) (fun c33 => ?_)
      · skip
        refine WL.val (run_pickF rfl) rfl rfl ?_
        refine WL.val run_move rfl rfl ?_
        refine WL.skip rfl rfl ?_
        refine WL.skip rfl rfl ?_
        refine WL.skip rfl rfl ?_
        refine WL.val (run_pickT rfl) rfl rfl ?_
        refine WL.val run_move rfl rfl ?_
        refine WL.skip rfl rfl ?_
        refine WL.skip rfl rfl ?_
        refine WL.val (run_pickT rfl) rfl rfl ?_
        refine WL.nil ?_
        refine W.condT rfl ?_
        refine W.seq ?_
        refine W.region ?_
        refine WL.val run_assign rfl rfl ?_
        refine WL.nil ?_
        refine W.ret ?_
        refine bodyQ.r1 (v := .bool _) Try.results3 rfl ?_
        -- path FFT
        exact ⟨rfl, h⟩
      · skip
        refine WL.val (run_pickF rfl) rfl rfl ?_
        refine WL.val run_move rfl rfl ?_
        refine WL.val run_move rfl rfl ?_
        refine WL.val run_move rfl rfl ?_
        refine WL.dec (run_lss rfl rfl) rfl rfl (fun c38 => ?_) (fun c38 => ?_)
        · skip
          refine WL.val (run_pickF rfl) rfl rfl ?_
          refine WL.val run_move rfl rfl ?_
          refine WL.skip rfl rfl ?_
          refine WL.skip rfl rfl ?_
          refine WL.val (run_pickT rfl) rfl rfl ?_
          refine WL.nil ?_
          refine W.condT rfl ?_
          refine W.seq ?_
          refine W.region ?_
          refine WL.val run_assign rfl rfl ?_
          refine WL.nil ?_
          refine W.ret ?_
          refine bodyQ.r1 (v := .bool _) Try.results3 rfl ?_
          -- path FFFT
          exact ⟨rfl, h⟩
        · skip
          refine WL.val (run_pickF rfl) rfl rfl ?_
          refine WL.val run_move rfl rfl ?_
          refine WL.val run_move rfl rfl ?_
          refine WL.val (run_gtr rfl rfl) rfl rfl ?_
          refine WL.val (run_pickF rfl) rfl rfl ?_
          refine WL.nil ?_
          refine W.condIf rfl (fun c7 => ?_) (fun c7 => ?_)
          · skip
            refine W.seq ?_
            refine W.region ?_
            refine WL.val run_assign rfl rfl ?_
            refine WL.nil ?_
            refine W.ret ?_
            refine bodyQ.r1 (v := .bool _) Try.results3 rfl ?_
            -- path FFFFT
            exact ⟨rfl, h⟩
          · skip
            refine W.skip ?_
            refine W.seq ?_
            refine W.region ?_
            refine WL.val (run_buildS (pl := [(0, 1), (1, 1), (2, 1), (3, 1), (4, 1), (5, 1), (6, 1), (7, 1)]) (out := [.int .i64 _, .int .i64 _, .int .i64 _, .slice _ _ _, .int .u64 _, .int .u64 _, .int .i64 _, .bool _]) Try.underlying26 Try.zeroValue26 (fun w => by kernel_rfl) rfl (⟨⟨_, _, rfl, rfl, by decide⟩, trivial⟩) rfl) rfl rfl ?_
            refine WL.eff (eff_alloc h Try.zeroValue26 rfl) rfl rfl ?_
            rintro _ w ⟨b9, rfl, h⟩
            refine WL.eff (eff_storeN (vs := [.int .i64 _, .int .i64 _, .int .i64 _, .slice _ _ _, .int .u64 _, .int .u64 _, .int .i64 _, .bool _]) h Try.sizeOf26 rfl rfl rfl rfl rfl (fun k _ _ => free0 k)) rfl rfl ?_
            rintro _ w h
            try simp only [splice, List.take_zero, List.take_succ_cons, List.take_nil, List.drop_succ_cons, List.drop_zero, List.drop_nil, List.nil_append, List.cons_append, List.append_nil, List.length_cons, List.length_nil, Nat.zero_add, Nat.reduceAdd] at h
            refine WL.nil ?_
            refine W.seq ?_
            refine W.region ?_
            refine WL.val (run_loadB (vs := [.int .i64 _, .int .i64 _, .int .i64 _, .slice _ _ _, .int .u64 _, .int .u64 _, .int .i64 _, .bool _]) h Try.isAgg26 Try.sizeOf26 rfl rfl rfl) rfl rfl ?_
            refine WL.val run_move rfl rfl ?_
            refine WL.val (run_buildS (pl := [(0, 1), (1, 1), (2, 8), (10, 1)]) (out := [.int .i64 _, .int .u64 _, .int .i64 _, .int .i64 _, .int .i64 _, .slice _ _ _, .int .u64 _, .int .u64 _, .int .i64 _, .bool _, .int .i64 _]) Try.underlying28 Try.zeroValue28 (fun w => by kernel_rfl) rfl (⟨⟨_, _, rfl, rfl, by decide⟩, ⟨⟨_, _, rfl, rfl, by decide⟩, ⟨⟨_, _, rfl, rfl, by decide⟩, ⟨⟨_, _, rfl, rfl, by decide⟩, trivial⟩⟩⟩⟩) rfl) rfl rfl ?_
            refine WL.val (run_loadB (vs := [.int .i64 _, .int .i64 _, .int .i64 _, .slice _ _ _, .int .u64 _, .int .u64 _, .int .i64 _, .bool _]) h Try.isAgg26 Try.sizeOf26 rfl rfl rfl) rfl rfl ?_
            refine WL.val run_move rfl rfl ?_
            refine WL.val (run_buildS (pl := [(0, 1), (1, 1), (2, 8), (10, 1)]) (out := [.int .i64 _, .int .u64 _, .int .i64 _, .int .i64 _, .int .i64 _, .slice _ _ _, .int .u64 _, .int .u64 _, .int .i64 _, .bool _, .int .i64 _]) Try.underlying28 Try.zeroValue28 (fun w => by kernel_rfl) rfl (⟨⟨_, _, rfl, rfl, by decide⟩, ⟨⟨_, _, rfl, rfl, by decide⟩, ⟨⟨_, _, rfl, rfl, by decide⟩, ⟨⟨_, _, rfl, rfl, by decide⟩, trivial⟩⟩⟩⟩) rfl) rfl rfl ?_
            refine WL.eff (eff_mkSlice (zl := [.int .i64 0, .int .u64 0, .int .i64 0, .int .i64 0, .int .i64 0, .slice none 0 0, .int .u64 0, .int .u64 0, .int .i64 0, .bool false, .int .i64 0, .int .i64 0, .int .u64 0, .int .i64 0, .int .i64 0, .int .i64 0, .slice none 0 0, .int .u64 0, .int .u64 0, .int .i64 0, .bool false, .int .i64 0]) (out := [.int .i64 _, .int .u64 _, .int .i64 _, .int .i64 _, .int .i64 _, .slice _ _ _, .int .u64 _, .int .u64 _, .int .i64 _, .bool _, .int .i64 _, .int .i64 _, .int .u64 _, .int .i64 _, .int .i64 _, .int .i64 _, .slice _ _ _, .int .u64 _, .int .u64 _, .int .i64 _, .bool _, .int .i64 _]) h Try.underlying29 Try.sizeOf28 Try.zeroValue28 (by decide) (by kernel_rfl) rfl rfl (by simp) (⟨⟨_, _, rfl, rfl, by decide⟩, ⟨⟨_, _, rfl, rfl, by decide⟩, trivial⟩⟩) rfl rfl (by simp [maxLen])) rfl rfl ?_
            rintro _ w ⟨b51, rfl, h⟩
            refine WL.val run_assign rfl rfl ?_
            refine WL.nil ?_
            refine W.seq ?_
            refine W.region ?_
            refine WL.val run_move rfl rfl ?_
            refine WL.val (run_buildS (pl := [(0, 1), (1, 1), (2, 5), (7, 1)]) (out := [.int .i64 _, .int .u64 _, .int .i64 _, .int .i64 _, .int .i64 _, .slice _ _ _, .int .i64 _, .int .i64 _]) Try.underlying33 Try.zeroValue33 (fun w => by kernel_rfl) rfl (⟨⟨_, _, rfl, rfl, by decide⟩, ⟨⟨_, _, rfl, rfl, by decide⟩, ⟨⟨_, _, rfl, rfl, by decide⟩, trivial⟩⟩⟩) rfl) rfl rfl ?_
            refine WL.val run_move rfl rfl ?_
            refine WL.val (run_buildS (pl := [(0, 1), (1, 1), (2, 5), (7, 1)]) (out := [.int .i64 _, .int .u64 _, .int .i64 _, .int .i64 _, .int .i64 _, .slice _ _ _, .int .i64 _, .int .i64 _]) Try.underlying33 Try.zeroValue33 (fun w => by kernel_rfl) rfl (⟨⟨_, _, rfl, rfl, by decide⟩, ⟨⟨_, _, rfl, rfl, by decide⟩, ⟨⟨_, _, rfl, rfl, by decide⟩, trivial⟩⟩⟩) rfl) rfl rfl ?_
            refine WL.eff (eff_mkSlice (zl := [.int .i64 0, .int .u64 0, .int .i64 0, .int .i64 0, .int .i64 0, .slice none 0 0, .int .i64 0, .int .i64 0, .int .i64 0, .int .u64 0, .int .i64 0, .int .i64 0, .int .i64 0, .slice none 0 0, .int .i64 0, .int .i64 0]) (out := [.int .i64 _, .int .u64 _, .int .i64 _, .int .i64 _, .int .i64 _, .slice _ _ _, .int .i64 _, .int .i64 _, .int .i64 _, .int .u64 _, .int .i64 _, .int .i64 _, .int .i64 _, .slice _ _ _, .int .i64 _, .int .i64 _]) h Try.underlying34 Try.sizeOf33 Try.zeroValue33 (by decide) (by kernel_rfl) rfl rfl (by simp) (⟨⟨_, _, rfl, rfl, by decide⟩, ⟨⟨_, _, rfl, rfl, by decide⟩, trivial⟩⟩) rfl rfl (by simp [maxLen])) rfl rfl ?_
            rintro _ w ⟨b56, rfl, h⟩
            refine WL.val run_assign rfl rfl ?_
            refine WL.nil ?_
            refine W.seq ?_
            refine W.seq ?_
            have hbc : b_ < c_ := by omega
            have h : On W0 (Own 8 (.slice (some ⟨b56, 0, none⟩) 2 2) 2 ([ouA b_, ouB d_].flatMap OuX.cells) :: _) w := h.own (.slice (some ⟨b56, 0, none⟩) 2 2)
            have h : On W0 (Own 11 (.slice (some ⟨b51, 0, none⟩) 2 2) 2 ([inA a_, inB c_].flatMap InX.cells) :: _) w := h.own (.slice (some ⟨b51, 0, none⟩) 2 2)
            refine W.region ?_
            refine WL.val run_assign rfl rfl ?_
            refine WL.nil ?_
            refine W.block ?_
            refine W.loop (fun (k : Nat) env w => k ≤ 2 ∧ ∃ (j : Env), env = mkE j [(0, .int .i64 a_), (1, .int .i64 b_), (2, .int .i64 c_), (3, .int .i64 d_), (10, .slice (some ⟨b51, 0, none⟩) 2 2), (11, .slice (some ⟨b56, 0, none⟩) 2 2), (12, .int .i64 (k : Int))] ∧ On W0 (Own 11 (.slice (some ⟨b51, 0, none⟩) 2 2) 2 ([inA a_, inB c_].flatMap InX.cells) :: Own 8 (.slice (some ⟨b56, 0, none⟩) 2 2) 2 ([ouA b_, ouB d_].flatMap OuX.cells) :: F) w) (fun k => 2 - k) (0) ?_ ?_
            · exact ⟨Nat.zero_le _, _, mkE_of ⟨rfl, rfl, rfl, rfl, rfl, rfl, rfl, trivial⟩, h.to⟩
            · clear h
              rintro k env w ⟨hk, j, rfl, h⟩
              refine W.seq ?_
              refine W.seq ?_
              refine W.region ?_
              refine WL.val run_move rfl rfl ?_
              refine WL.val (run_lss rfl rfl) rfl rfl ?_
              refine WL.nil ?_
              refine W.condIf rfl (fun c18 => ?_) (fun c18 => ?_)
              · skip
                refine W.skip ?_
                refine W.seq ?_
                have hk2 : k < 2 := by omega
                have exy_ : ∃ x y, (([.int .i64 a_, .int .i64 b_] : List Value).drop (k * 1)).take 1 = [.int .i64 x] ∧ (([.int .i64 c_, .int .i64 d_] : List Value).drop (k * 1)).take 1 = [.int .i64 y] ∧ a_ ≤ x ∧ x ≤ b_ ∧ c_ ≤ y ∧ y ≤ d_ := by
                  match k, hk2 with
                  | 0, _ => exact ⟨a_, c_, rfl, rfl, by omega, by omega, by omega, by omega⟩
                  | 1, _ => exact ⟨b_, d_, rfl, rfl, by omega, by omega, by omega, by omega⟩
                obtain ⟨x, y, hrx, hry, hx1, hx2, hx3, hx4⟩ := exy_
                refine W.block ?_
                refine W.seq ?_
                refine W.region ?_
                refine WL.val run_move rfl rfl ?_
                refine WL.val run_move rfl rfl ?_
                refine WL.eff (eff_mkSlice (zl := [.int .i64 0, .int .i64 0]) (out := [.int .i64 _, .int .i64 _]) h Try.underlying35 Try.sizeOf3 Try.zeroValue3 (by decide) (by kernel_rfl) rfl rfl (by simp) (⟨⟨_, _, rfl, rfl, by decide⟩, ⟨⟨_, _, rfl, rfl, by decide⟩, trivial⟩⟩) rfl rfl (by simp [maxLen])) rfl rfl ?_
                rintro _ w ⟨b63, rfl, h⟩
                refine WL.val run_move rfl rfl ?_
                refine WL.val (run_indexAddr Try.underlying35 Try.sizeOf3 rfl rfl (by omega) (by show (k : Int) < ((2 : Nat) : Int); omega)) rfl rfl ?_
                refine WL.val (run_load1 Try.isAgg3 rfl ((h.cellsO (v := .slice (some ⟨b63, 0, none⟩) 2 2)).elem (i := k) (vs := [.int .i64 x]) hk2 hrx 0 _ rfl)) rfl rfl ?_
                refine WL.val run_assign rfl rfl ?_
                refine WL.nil ?_
                refine W.seq ?_
                refine W.region ?_
                refine WL.val run_move rfl rfl ?_
                refine WL.val run_move rfl rfl ?_
                refine WL.eff (eff_mkSlice (zl := [.int .i64 0, .int .i64 0]) (out := [.int .i64 _, .int .i64 _]) h Try.underlying35 Try.sizeOf3 Try.zeroValue3 (by decide) (by kernel_rfl) rfl rfl (by simp) (⟨⟨_, _, rfl, rfl, by decide⟩, ⟨⟨_, _, rfl, rfl, by decide⟩, trivial⟩⟩) rfl rfl (by simp [maxLen])) rfl rfl ?_
                rintro _ w ⟨b69, rfl, h⟩
                refine WL.val run_move rfl rfl ?_
                refine WL.val (run_indexAddr Try.underlying35 Try.sizeOf3 rfl rfl (by omega) (by show (k : Int) < ((2 : Nat) : Int); omega)) rfl rfl ?_
                refine WL.val (run_load1 Try.isAgg3 rfl ((h.cellsO (v := .slice (some ⟨b69, 0, none⟩) 2 2)).elem (i := k) (vs := [.int .i64 y]) hk2 hry 0 _ rfl)) rfl rfl ?_
                refine WL.val run_assign rfl rfl ?_
                refine WL.nil ?_
                refine W.seq ?_
                refine W.region ?_
                refine WL.val run_move rfl rfl ?_
                refine WL.val run_move rfl rfl ?_
                refine WL.val (run_buildS (pl := [(0, 1), (1, 1), (2, 1)]) (out := [.int .i64 _, .int .u64 _, .int .i64 _]) Try.underlying40 Try.zeroValue40 (fun w => by kernel_rfl) rfl (⟨⟨_, _, rfl, rfl, by decide⟩, ⟨⟨_, _, rfl, rfl, by decide⟩, ⟨⟨_, _, rfl, rfl, by decide⟩, trivial⟩⟩⟩) rfl) rfl rfl ?_
                refine WL.val run_move rfl rfl ?_
                refine WL.val (run_buildS (pl := [(0, 1), (1, 1), (2, 1)]) (out := [.int .i64 _, .int .u64 _, .int .i64 _]) Try.underlying40 Try.zeroValue40 (fun w => by kernel_rfl) rfl (⟨⟨_, _, rfl, rfl, by decide⟩, ⟨⟨_, _, rfl, rfl, by decide⟩, ⟨⟨_, _, rfl, rfl, by decide⟩, trivial⟩⟩⟩) rfl) rfl rfl ?_
                refine WL.eff (eff_mkSlice (zl := [.int .i64 0, .int .u64 0, .int .i64 0, .int .i64 0, .int .u64 0, .int .i64 0]) (out := [.int .i64 _, .int .u64 _, .int .i64 _, .int .i64 _, .int .u64 _, .int .i64 _]) h Try.underlying41 Try.sizeOf40 Try.zeroValue40 (by decide) (by kernel_rfl) rfl rfl (by simp) (⟨⟨_, _, rfl, rfl, by decide⟩, ⟨⟨_, _, rfl, rfl, by decide⟩, trivial⟩⟩) rfl rfl (by simp [maxLen])) rfl rfl ?_
                rintro _ w ⟨b79, rfl, h⟩
                refine WL.val run_move rfl rfl ?_
                refine WL.eff (eff_call Try.call5 (check_ok (N := 4) (ins := [inA a_, inB c_]) (row := [coA x, coB y]) (out := [ouA b_, ouB d_]) (by decide) (by decide) (by show 2 ≤ 900000; decide) (List.nodup_cons.2 ⟨by intro hm; exact absurd (List.mem_singleton.1 hm) (by unfold InX.nm; simp), List.nodup_cons.2 ⟨by simp, List.nodup_nil⟩⟩) h (show Gives _ (Cells 11 (.slice (some ⟨b51, 0, none⟩) ([inA a_, inB c_]).length 2) ([inA a_, inB c_]).length (([inA a_, inB c_]).flatMap InX.cells)) from ownGives h (v := .slice (some ⟨b51, 0, none⟩) 2 2)) (show Gives _ (Cells 3 (.slice (some ⟨b79, 0, none⟩) ([coA x, coB y]).length 2) ([coA x, coB y]).length (([coA x, coB y]).flatMap CoX.cells)) from ownGives h (v := .slice (some ⟨b79, 0, none⟩) 2 2)) (show Gives _ (Cells 8 (.slice (some ⟨b56, 0, none⟩) ([ouA b_, ouB d_]).length 2) ([ouA b_, ouB d_]).length (([ouA b_, ouB d_]).flatMap OuX.cells)) from ownGives h (v := .slice (some ⟨b56, 0, none⟩) 2 2)) (fun x hx => by rcases List.mem_cons.1 hx with hx | hx; subst hx; exact Gives.nilB; rw [List.mem_singleton] at hx; subst hx; exact Gives.nilB) (fun x hx => by rcases List.mem_cons.1 hx with hx | hx; subst hx; exact ⟨okCm0, Nat.zero_le _⟩; rw [List.mem_singleton] at hx; subst hx; exact ⟨okCm0, Nat.zero_le _⟩) (fun x hx => by rcases List.mem_cons.1 hx with hx | hx; subst hx; exact Gives.nilB; rw [List.mem_singleton] at hx; subst hx; exact Gives.nilB))) rfl rfl ?_
                rintro v81 w ⟨hv81, h⟩
                rw [two_fine hx1 hx2 hbc hx3 hx4] at hv81
                subst hv81
                refine WL.val run_move rfl rfl ?_
                refine WL.val (run_extract rfl rfl) rfl rfl ?_
                refine WL.val (run_extract rfl rfl) rfl rfl ?_
                refine WL.val run_assign rfl rfl ?_
                refine WL.val run_assign rfl rfl ?_
                refine WL.nil ?_
                refine W.seq ?_
                refine W.region ?_
                refine WL.val run_move rfl rfl ?_
                refine WL.val run_move rfl rfl ?_
                refine WL.val (run_buildS (pl := [(0, 1), (1, 1), (2, 1)]) (out := [.int .i64 _, .int .u64 _, .int .i64 _]) Try.underlying40 Try.zeroValue40 (fun w => by kernel_rfl) rfl (⟨⟨_, _, rfl, rfl, by decide⟩, ⟨⟨_, _, rfl, rfl, by decide⟩, ⟨⟨_, _, rfl, rfl, by decide⟩, trivial⟩⟩⟩) rfl) rfl rfl ?_
                refine WL.val run_move rfl rfl ?_
                refine WL.val (run_buildS (pl := [(0, 1), (1, 1), (2, 1)]) (out := [.int .i64 _, .int .u64 _, .int .i64 _]) Try.underlying40 Try.zeroValue40 (fun w => by kernel_rfl) rfl (⟨⟨_, _, rfl, rfl, by decide⟩, ⟨⟨_, _, rfl, rfl, by decide⟩, ⟨⟨_, _, rfl, rfl, by decide⟩, trivial⟩⟩⟩) rfl) rfl rfl ?_
                refine WL.eff (eff_mkSlice (zl := [.int .i64 0, .int .u64 0, .int .i64 0, .int .i64 0, .int .u64 0, .int .i64 0]) (out := [.int .i64 _, .int .u64 _, .int .i64 _, .int .i64 _, .int .u64 _, .int .i64 _]) h Try.underlying41 Try.sizeOf40 Try.zeroValue40 (by decide) (by kernel_rfl) rfl rfl (by simp) (⟨⟨_, _, rfl, rfl, by decide⟩, ⟨⟨_, _, rfl, rfl, by decide⟩, trivial⟩⟩) rfl rfl (by simp [maxLen])) rfl rfl ?_
                rintro _ w ⟨b90, rfl, h⟩
                refine WL.val run_move rfl rfl ?_
                refine WL.eff (eff_call Try.call5 (check_ok (N := 4) (ins := [inA a_, inB c_]) (row := [coB y, coA x]) (out := [ouA b_, ouB d_]) (by decide) (by decide) (by show 2 ≤ 900000; decide) (List.nodup_cons.2 ⟨by intro hm; exact absurd (List.mem_singleton.1 hm) (by unfold InX.nm; simp), List.nodup_cons.2 ⟨by simp, List.nodup_nil⟩⟩) h (show Gives _ (Cells 11 (.slice (some ⟨b51, 0, none⟩) ([inA a_, inB c_]).length 2) ([inA a_, inB c_]).length (([inA a_, inB c_]).flatMap InX.cells)) from ownGives h (v := .slice (some ⟨b51, 0, none⟩) 2 2)) (show Gives _ (Cells 3 (.slice (some ⟨b90, 0, none⟩) ([coB y, coA x]).length 2) ([coB y, coA x]).length (([coB y, coA x]).flatMap CoX.cells)) from ownGives h (v := .slice (some ⟨b90, 0, none⟩) 2 2)) (show Gives _ (Cells 8 (.slice (some ⟨b56, 0, none⟩) ([ouA b_, ouB d_]).length 2) ([ouA b_, ouB d_]).length (([ouA b_, ouB d_]).flatMap OuX.cells)) from ownGives h (v := .slice (some ⟨b56, 0, none⟩) 2 2)) (fun x hx => by rcases List.mem_cons.1 hx with hx | hx; subst hx; exact Gives.nilB; rw [List.mem_singleton] at hx; subst hx; exact Gives.nilB) (fun x hx => by rcases List.mem_cons.1 hx with hx | hx; subst hx; exact ⟨okCm0, Nat.zero_le _⟩; rw [List.mem_singleton] at hx; subst hx; exact ⟨okCm0, Nat.zero_le _⟩) (fun x hx => by rcases List.mem_cons.1 hx with hx | hx; subst hx; exact Gives.nilB; rw [List.mem_singleton] at hx; subst hx; exact Gives.nilB))) rfl rfl ?_
                rintro v92 w ⟨hv92, h⟩
                rw [two_turned hx1 hx2 hbc hx3 hx4] at hv92
                subst hv92
                refine WL.val run_move rfl rfl ?_
                refine WL.val (run_extract rfl rfl) rfl rfl ?_
                refine WL.val (run_extract rfl rfl) rfl rfl ?_
                refine WL.val run_assign rfl rfl ?_
                refine WL.val run_assign rfl rfl ?_
                refine WL.nil ?_
                refine W.seq ?_
                refine W.region ?_
                refine WL.val run_move rfl rfl ?_
                refine WL.val run_move rfl rfl ?_
                refine WL.val (run_buildS (pl := [(0, 1), (1, 1), (2, 1)]) (out := [.int .i64 _, .int .u64 _, .int .i64 _]) Try.underlying40 Try.zeroValue40 (fun w => by kernel_rfl) rfl (⟨⟨_, _, rfl, rfl, by decide⟩, ⟨⟨_, _, rfl, rfl, by decide⟩, ⟨⟨_, _, rfl, rfl, by decide⟩, trivial⟩⟩⟩) rfl) rfl rfl ?_
                refine WL.val run_move rfl rfl ?_
                refine WL.val (run_buildS (pl := [(0, 1), (1, 1), (2, 1)]) (out := [.int .i64 _, .int .u64 _, .int .i64 _]) Try.underlying40 Try.zeroValue40 (fun w => by kernel_rfl) rfl (⟨⟨_, _, rfl, rfl, by decide⟩, ⟨⟨_, _, rfl, rfl, by decide⟩, ⟨⟨_, _, rfl, rfl, by decide⟩, trivial⟩⟩⟩) rfl) rfl rfl ?_
                refine WL.eff (eff_mkSlice (zl := [.int .i64 0, .int .u64 0, .int .i64 0, .int .i64 0, .int .u64 0, .int .i64 0]) (out := [.int .i64 _, .int .u64 _, .int .i64 _, .int .i64 _, .int .u64 _, .int .i64 _]) h Try.underlying41 Try.sizeOf40 Try.zeroValue40 (by decide) (by kernel_rfl) rfl rfl (by simp) (⟨⟨_, _, rfl, rfl, by decide⟩, ⟨⟨_, _, rfl, rfl, by decide⟩, trivial⟩⟩) rfl rfl (by simp [maxLen])) rfl rfl ?_
                rintro _ w ⟨b101, rfl, h⟩
                refine WL.val run_move rfl rfl ?_
                refine WL.eff (eff_call Try.call5 (check_ok (N := 4) (ins := [inA a_, inB c_]) (row := [coB y, coA y]) (out := [ouA b_, ouB d_]) (by decide) (by decide) (by show 2 ≤ 900000; decide) (List.nodup_cons.2 ⟨by intro hm; exact absurd (List.mem_singleton.1 hm) (by unfold InX.nm; simp), List.nodup_cons.2 ⟨by simp, List.nodup_nil⟩⟩) h (show Gives _ (Cells 11 (.slice (some ⟨b51, 0, none⟩) ([inA a_, inB c_]).length 2) ([inA a_, inB c_]).length (([inA a_, inB c_]).flatMap InX.cells)) from ownGives h (v := .slice (some ⟨b51, 0, none⟩) 2 2)) (show Gives _ (Cells 3 (.slice (some ⟨b101, 0, none⟩) ([coB y, coA y]).length 2) ([coB y, coA y]).length (([coB y, coA y]).flatMap CoX.cells)) from ownGives h (v := .slice (some ⟨b101, 0, none⟩) 2 2)) (show Gives _ (Cells 8 (.slice (some ⟨b56, 0, none⟩) ([ouA b_, ouB d_]).length 2) ([ouA b_, ouB d_]).length (([ouA b_, ouB d_]).flatMap OuX.cells)) from ownGives h (v := .slice (some ⟨b56, 0, none⟩) 2 2)) (fun x hx => by rcases List.mem_cons.1 hx with hx | hx; subst hx; exact Gives.nilB; rw [List.mem_singleton] at hx; subst hx; exact Gives.nilB) (fun x hx => by rcases List.mem_cons.1 hx with hx | hx; subst hx; exact ⟨okCm0, Nat.zero_le _⟩; rw [List.mem_singleton] at hx; subst hx; exact ⟨okCm0, Nat.zero_le _⟩) (fun x hx => by rcases List.mem_cons.1 hx with hx | hx; subst hx; exact Gives.nilB; rw [List.mem_singleton] at hx; subst hx; exact Gives.nilB))) rfl rfl ?_
                rintro v103 w ⟨hv103, h⟩
                rw [two_late hx1 hx2 hbc hx3 hx4] at hv103
                subst hv103
                refine WL.val run_move rfl rfl ?_
                refine WL.val (run_extract rfl rfl) rfl rfl ?_
                refine WL.val (run_extract rfl rfl) rfl rfl ?_
                refine WL.val run_assign rfl rfl ?_
                refine WL.val run_assign rfl rfl ?_
                refine WL.nil ?_
                refine W.seq ?_
                refine W.region ?_
                refine WL.val run_move rfl rfl ?_
                refine WL.val (run_neqF rfl rfl (by decide)) rfl rfl ?_
                refine WL.val run_move rfl rfl ?_
                refine WL.val run_move rfl rfl ?_
                refine WL.val (run_eqlF rfl rfl (by decide)) rfl rfl ?_
                refine WL.val (run_pickF rfl) rfl rfl ?_
                refine WL.val run_move rfl rfl ?_
                refine WL.val run_move rfl rfl ?_
                refine WL.val (run_eqlF rfl rfl (by decide)) rfl rfl ?_
                refine WL.val (run_pickF rfl) rfl rfl ?_
                refine WL.nil ?_
                refine W.condF rfl ?_
                refine W.skip ?_
                refine W.region ?_
                refine WL.val run_move rfl rfl ?_
                refine WL.val (run_incN rfl rfl (by omega)) rfl rfl ?_
                refine WL.val run_assign rfl rfl ?_
                refine WL.nil ?_
                -- round, path FFFFFLT
                exact ⟨k + 1, ⟨by omega, _, mkE_of ⟨rfl, rfl, rfl, rfl, rfl, rfl, rfl, trivial⟩, h.to⟩, by show 2 - (k + 1) < 2 - k; omega⟩
              · skip
                refine W.exit ?_
                refine W.seq ?_
                refine W.region ?_
                refine WL.val run_assign rfl rfl ?_
                refine WL.nil ?_
                refine W.ret ?_
                refine bodyQ.r1 (v := .bool _) Try.results3 rfl ?_
                -- path FFFFFLF
                exact ⟨rfl, h.to⟩

end Go.Proofs.Ytdpakoefdpmebaa
