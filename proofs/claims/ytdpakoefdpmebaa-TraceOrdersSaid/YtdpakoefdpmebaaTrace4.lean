/-
  A unit: the law's own rows: the contracts. Lines of walks printed by a program of the prover's.
-/
import Derived.Test.YtdpakoefdpmebaaTrace3
import Derived.Test.YtdpakoefdpmebaaSlB
namespace Go.Proofs.Ytdpakoefdpmebaa
open Go Go.Sl Go.Sl.TrM Go.Sl.BitM Go.Sl.SpM Go.Sl.RsM Go.Sl.ByM Go.Sl.UnM
set_option linter.unusedVariables false
set_option linter.unusedSimpArgs false
set_option maxHeartbeats 1000000
set_option maxRecDepth 8000
variable {W0 w : World} {L F : List HProp}


theorem okCm0 {k a n t : Int} {d : List UInt8} {f : Bool} : okCm ⟨k, a, n, d, 0, 0, t, f⟩ := ⟨⟨Int.le_refl 0, by show (0 : Int) < _; decide⟩, Int.le_refl 0, by show (0 : Int) < _; decide⟩
theorem ownGives {v : Value} {size n : Nat} {xs : List Value} {L' : List HProp} (h : On W0 L w) [p : OwnIn L v size n xs L'] : Gives L (Cells size v n xs) := Gives.ownO

theorem tknown_ok (h : On W0 F w) : Calls Try.prog 4 #[] w (Ret fun v w' => v = .bool true ∧ On W0 F w') := by
  refine enter Try.func4 rfl Try.ntmps4 rfl ?_
  have hmx := maxLen_eq
  refine W.seq ?_
  refine W.region ?_
  refine WL.val run_assign rfl rfl ?_
  refine WL.nil ?_
  refine W.seq ?_
  refine W.region ?_
  refine WL.eff (eff_make (n := 8) (bytes := 1) h (rfl) (rfl) Try.underlying23 rfl rfl rfl rfl rfl (by omega) (by omega)) rfl rfl ?_
  rintro _ w ⟨b12, rfl, h⟩
  refine WL.val (run_buildS (pl := [(0, 1), (1, 1), (2, 1), (3, 1), (4, 1), (5, 1), (6, 1), (7, 1)]) (out := [.int .i64 _, .int .i64 _, .int .i64 _, .slice _ _ _, .int .u64 _, .int .u64 _, .int .i64 _, .bool _]) Try.underlying26 Try.zeroValue26 (fun w => by kernel_rfl) rfl (⟨⟨_, _, rfl, rfl, by decide⟩, ⟨⟨_, _, rfl, rfl, by decide⟩, ⟨⟨_, _, rfl, rfl, by decide⟩, trivial⟩⟩⟩) rfl) rfl rfl ?_
  refine WL.eff (eff_alloc h Try.zeroValue26 rfl) rfl rfl ?_
  rintro _ w ⟨b1, rfl, h⟩
  refine WL.eff (eff_storeN (vs := [.int .i64 _, .int .i64 _, .int .i64 _, .slice _ _ _, .int .u64 _, .int .u64 _, .int .i64 _, .bool _]) h Try.sizeOf26 rfl rfl rfl rfl rfl (fun k _ _ => free0 k)) rfl rfl ?_
  rintro _ w h
  try simp only [splice, List.take_zero, List.take_succ_cons, List.take_nil, List.drop_succ_cons, List.drop_zero, List.drop_nil, List.nil_append, List.cons_append, List.append_nil, List.length_cons, List.length_nil, Nat.zero_add, Nat.reduceAdd] at h
  refine WL.nil ?_
  refine W.seq ?_
  rw [← zerosB] at h
  refine W.region ?_
  refine WL.val (run_loadB (vs := [.int .i64 _, .int .i64 _, .int .i64 _, .slice _ _ _, .int .u64 _, .int .u64 _, .int .i64 _, .bool _]) h Try.isAgg26 Try.sizeOf26 rfl rfl rfl) rfl rfl ?_
  refine WL.val (run_buildS (pl := [(0, 1), (1, 1), (2, 8), (10, 1)]) (out := [.int .i64 _, .int .u64 _, .int .i64 _, .int .i64 _, .int .i64 _, .slice _ _ _, .int .u64 _, .int .u64 _, .int .i64 _, .bool _, .int .i64 _]) Try.underlying28 Try.zeroValue28 (fun w => by kernel_rfl) rfl (⟨⟨_, _, rfl, rfl, by decide⟩, ⟨⟨_, _, rfl, rfl, by decide⟩, ⟨⟨_, _, rfl, rfl, by decide⟩, ⟨⟨_, _, rfl, rfl, by decide⟩, trivial⟩⟩⟩⟩) rfl) rfl rfl ?_
  refine WL.eff (eff_mkSlice (zl := [.int .i64 0, .int .u64 0, .int .i64 0, .int .i64 0, .int .i64 0, .slice none 0 0, .int .u64 0, .int .u64 0, .int .i64 0, .bool false, .int .i64 0]) (out := [.int .i64 _, .int .u64 _, .int .i64 _, .int .i64 _, .int .i64 _, .slice _ _ _, .int .u64 _, .int .u64 _, .int .i64 _, .bool _, .int .i64 _]) h Try.underlying29 Try.sizeOf28 Try.zeroValue28 (by decide) (by kernel_rfl) rfl rfl (by simp) (⟨⟨_, _, rfl, rfl, by decide⟩, trivial⟩) rfl rfl (by simp [maxLen])) rfl rfl ?_
  rintro _ w ⟨b16, rfl, h⟩
  refine WL.val run_assign rfl rfl ?_
  refine WL.nil ?_
  refine W.seq ?_
  refine W.region ?_
  refine WL.val (run_buildS (pl := [(0, 1), (1, 1), (2, 1)]) (out := [.int .i64 _, .int .u64 _, .int .i64 _]) Try.underlying40 Try.zeroValue40 (fun w => by kernel_rfl) rfl (⟨⟨_, _, rfl, rfl, by decide⟩, ⟨⟨_, _, rfl, rfl, by decide⟩, ⟨⟨_, _, rfl, rfl, by decide⟩, trivial⟩⟩⟩) rfl) rfl rfl ?_
  refine WL.eff (eff_mkSlice (zl := [.int .i64 0, .int .u64 0, .int .i64 0]) (out := [.int .i64 _, .int .u64 _, .int .i64 _]) h Try.underlying41 Try.sizeOf40 Try.zeroValue40 (by decide) (by kernel_rfl) rfl rfl (by simp) (⟨⟨_, _, rfl, rfl, by decide⟩, trivial⟩) rfl rfl (by simp [maxLen])) rfl rfl ?_
  rintro _ w ⟨b18, rfl, h⟩
  refine WL.val run_assign rfl rfl ?_
  refine WL.nil ?_
  refine W.seq ?_
  refine W.region ?_
  refine WL.val run_move rfl rfl ?_
  refine WL.val run_move rfl rfl ?_
  refine WL.val (run_buildS (pl := [(0, 1), (1, 1), (2, 5), (7, 1)]) (out := [.int .i64 _, .int .u64 _, .int .i64 _, .int .i64 _, .int .i64 _, .slice _ _ _, .int .i64 _, .int .i64 _]) Try.underlying33 Try.zeroValue33 (fun w => by kernel_rfl) rfl (⟨⟨_, _, rfl, rfl, by decide⟩, ⟨⟨_, _, rfl, rfl, by decide⟩, ⟨⟨_, _, rfl, rfl, by decide⟩, trivial⟩⟩⟩) rfl) rfl rfl ?_
  refine WL.eff (eff_mkSlice (zl := [.int .i64 0, .int .u64 0, .int .i64 0, .int .i64 0, .int .i64 0, .slice none 0 0, .int .i64 0, .int .i64 0]) (out := [.int .i64 _, .int .u64 _, .int .i64 _, .int .i64 _, .int .i64 _, .slice _ _ _, .int .i64 _, .int .i64 _]) h Try.underlying34 Try.sizeOf33 Try.zeroValue33 (by decide) (by kernel_rfl) rfl rfl (by simp) (⟨⟨_, _, rfl, rfl, by decide⟩, trivial⟩) rfl rfl (by simp [maxLen])) rfl rfl ?_
  rintro _ w ⟨b23, rfl, h⟩
  refine WL.eff (eff_call Try.call5 (check_ok (N := 4) (ins := [(⟨0, 1, ⟨3, 0, 1, some ⟨b12, 0, none⟩, 8, List.replicate 8 0, 0, 0, 0, false⟩, 1⟩ : InX)]) (row := [(⟨0, 1, 2⟩ : CoX)]) (out := [(⟨0, 1, 0, 0, 0, none, 0, [], 0, 3⟩ : OuX)]) (by decide) (by decide) (by decide) (List.nodup_cons.2 ⟨by simp, List.nodup_nil⟩) h (show Gives _ (Cells 11 (.slice (some ⟨b16, 0, none⟩) [(⟨0, 1, ⟨3, 0, 1, some ⟨b12, 0, none⟩, 8, List.replicate 8 0, 0, 0, 0, false⟩, 1⟩ : InX)].length 1) [(⟨0, 1, ⟨3, 0, 1, some ⟨b12, 0, none⟩, 8, List.replicate 8 0, 0, 0, 0, false⟩, 1⟩ : InX)].length ([(⟨0, 1, ⟨3, 0, 1, some ⟨b12, 0, none⟩, 8, List.replicate 8 0, 0, 0, 0, false⟩, 1⟩ : InX)].flatMap InX.cells)) from ownGives h (v := .slice (some ⟨b16, 0, none⟩) 1 1)) (show Gives _ (Cells 3 (.slice (some ⟨b18, 0, none⟩) [(⟨0, 1, 2⟩ : CoX)].length 1) [(⟨0, 1, 2⟩ : CoX)].length ([(⟨0, 1, 2⟩ : CoX)].flatMap CoX.cells)) from ownGives h (v := .slice (some ⟨b18, 0, none⟩) 1 1)) (show Gives _ (Cells 8 (.slice (some ⟨b23, 0, none⟩) [(⟨0, 1, 0, 0, 0, none, 0, [], 0, 3⟩ : OuX)].length 1) [(⟨0, 1, 0, 0, 0, none, 0, [], 0, 3⟩ : OuX)].length ([(⟨0, 1, 0, 0, 0, none, 0, [], 0, 3⟩ : OuX)].flatMap OuX.cells)) from ownGives h (v := .slice (some ⟨b23, 0, none⟩) 1 1)) (fun x hx => by rw [List.mem_singleton] at hx; subst hx; exact Gives.ownO (v := .slice (some ⟨b12, 0, none⟩) 8 8)) (fun x hx => by rw [List.mem_singleton] at hx; subst hx; exact ⟨okCm0, by show (List.replicate 8 (0 : UInt8)).length ≤ 1000000; decide⟩) (fun x hx => by rw [List.mem_singleton] at hx; subst hx; exact Gives.nilB))) rfl rfl ?_
  rintro v24 w ⟨hv24, h⟩
  have e24 : checkM 4 [(⟨0, 1, ⟨3, 0, 1, some ⟨b12, 0, none⟩, 8, List.replicate 8 0, 0, 0, 0, false⟩, 1⟩ : InX)] [(⟨0, 1, 2⟩ : CoX)] [(⟨0, 1, 0, 0, 0, none, 0, [], 0, 3⟩ : OuX)] = (0, 0) := by kernel_rfl
  rw [e24] at hv24
  subst hv24
  refine WL.val run_move rfl rfl ?_
  refine WL.val (run_extract rfl rfl) rfl rfl ?_
  refine WL.val (run_extract rfl rfl) rfl rfl ?_
  refine WL.val run_assign rfl rfl ?_
  refine WL.val run_assign rfl rfl ?_
  refine WL.nil ?_
  refine W.seq ?_
  refine W.region ?_
  refine WL.val run_move rfl rfl ?_
  refine WL.val (run_buildS (pl := [(0, 1), (1, 1), (2, 5), (7, 1)]) (out := [.int .i64 _, .int .u64 _, .int .i64 _, .int .i64 _, .int .i64 _, .slice _ _ _, .int .i64 _, .int .i64 _]) Try.underlying33 Try.zeroValue33 (fun w => by kernel_rfl) rfl (⟨⟨_, _, rfl, rfl, by decide⟩, ⟨⟨_, _, rfl, rfl, by decide⟩, ⟨⟨_, _, rfl, rfl, by decide⟩, trivial⟩⟩⟩) rfl) rfl rfl ?_
  refine WL.eff (eff_mkSlice (zl := [.int .i64 0, .int .u64 0, .int .i64 0, .int .i64 0, .int .i64 0, .slice none 0 0, .int .i64 0, .int .i64 0]) (out := [.int .i64 _, .int .u64 _, .int .i64 _, .int .i64 _, .int .i64 _, .slice _ _ _, .int .i64 _, .int .i64 _]) h Try.underlying34 Try.sizeOf33 Try.zeroValue33 (by decide) (by kernel_rfl) rfl rfl (by simp) (⟨⟨_, _, rfl, rfl, by decide⟩, trivial⟩) rfl rfl (by simp [maxLen])) rfl rfl ?_
  rintro _ w ⟨b30, rfl, h⟩
  refine WL.eff (eff_call Try.call5 (check_ok (N := 4) (ins := [(⟨0, 1, ⟨3, 0, 1, some ⟨b12, 0, none⟩, 8, List.replicate 8 0, 0, 0, 0, false⟩, 1⟩ : InX)]) (row := []) (out := [(⟨0, 1, 0, 0, 0, none, 0, [], 0, 3⟩ : OuX)]) (by decide) (by decide) (by decide) (List.nodup_cons.2 ⟨by simp, List.nodup_nil⟩) h (show Gives _ (Cells 11 (.slice (some ⟨b16, 0, none⟩) [(⟨0, 1, ⟨3, 0, 1, some ⟨b12, 0, none⟩, 8, List.replicate 8 0, 0, 0, 0, false⟩, 1⟩ : InX)].length 1) [(⟨0, 1, ⟨3, 0, 1, some ⟨b12, 0, none⟩, 8, List.replicate 8 0, 0, 0, 0, false⟩, 1⟩ : InX)].length ([(⟨0, 1, ⟨3, 0, 1, some ⟨b12, 0, none⟩, 8, List.replicate 8 0, 0, 0, 0, false⟩, 1⟩ : InX)].flatMap InX.cells)) from ownGives h (v := .slice (some ⟨b16, 0, none⟩) 1 1)) (show Gives _ (Cells 3 (.slice none ([] : List CoX).length 0) ([] : List CoX).length (([] : List CoX).flatMap CoX.cells)) from Gives.nilC) (show Gives _ (Cells 8 (.slice (some ⟨b30, 0, none⟩) [(⟨0, 1, 0, 0, 0, none, 0, [], 0, 3⟩ : OuX)].length 1) [(⟨0, 1, 0, 0, 0, none, 0, [], 0, 3⟩ : OuX)].length ([(⟨0, 1, 0, 0, 0, none, 0, [], 0, 3⟩ : OuX)].flatMap OuX.cells)) from ownGives h (v := .slice (some ⟨b30, 0, none⟩) 1 1)) (fun x hx => by rw [List.mem_singleton] at hx; subst hx; exact Gives.ownO (v := .slice (some ⟨b12, 0, none⟩) 8 8)) (fun x hx => by rw [List.mem_singleton] at hx; subst hx; exact ⟨okCm0, by show (List.replicate 8 (0 : UInt8)).length ≤ 1000000; decide⟩) (fun x hx => by rw [List.mem_singleton] at hx; subst hx; exact Gives.nilB))) rfl rfl ?_
  rintro v31 w ⟨hv31, h⟩
  have e31 : checkM 4 [(⟨0, 1, ⟨3, 0, 1, some ⟨b12, 0, none⟩, 8, List.replicate 8 0, 0, 0, 0, false⟩, 1⟩ : InX)] [] [(⟨0, 1, 0, 0, 0, none, 0, [], 0, 3⟩ : OuX)] = (0, 6) := by kernel_rfl
  rw [e31] at hv31
  subst hv31
  refine WL.val run_move rfl rfl ?_
  refine WL.val (run_extract rfl rfl) rfl rfl ?_
  refine WL.val (run_extract rfl rfl) rfl rfl ?_
  refine WL.val run_assign rfl rfl ?_
  refine WL.val run_assign rfl rfl ?_
  refine WL.nil ?_
  refine W.seq ?_
  refine W.region ?_
  refine WL.val run_move rfl rfl ?_
  refine WL.val run_move rfl rfl ?_
  refine WL.val (run_buildS (pl := [(0, 1), (1, 1), (2, 1), (3, 1), (4, 1)]) (out := [.int .i64 _, .int .i64 _, .int .i64 _, .slice _ _ _, .int .i64 _]) Try.underlying31 Try.zeroValue31 (fun w => by kernel_rfl) rfl (⟨⟨_, _, rfl, rfl, by decide⟩, trivial⟩) rfl) rfl rfl ?_
  refine WL.val (run_buildS (pl := [(0, 1), (1, 1), (2, 5), (7, 1)]) (out := [.int .i64 _, .int .u64 _, .int .i64 _, .int .i64 _, .int .i64 _, .slice _ _ _, .int .i64 _, .int .i64 _]) Try.underlying33 Try.zeroValue33 (fun w => by kernel_rfl) rfl (⟨⟨_, _, rfl, rfl, by decide⟩, ⟨⟨_, _, rfl, rfl, by decide⟩, ⟨⟨_, _, rfl, rfl, by decide⟩, ⟨⟨_, _, rfl, rfl, by decide⟩, trivial⟩⟩⟩⟩) rfl) rfl rfl ?_
  refine WL.eff (eff_mkSlice (zl := [.int .i64 0, .int .u64 0, .int .i64 0, .int .i64 0, .int .i64 0, .slice none 0 0, .int .i64 0, .int .i64 0]) (out := [.int .i64 _, .int .u64 _, .int .i64 _, .int .i64 _, .int .i64 _, .slice _ _ _, .int .i64 _, .int .i64 _]) h Try.underlying34 Try.sizeOf33 Try.zeroValue33 (by decide) (by kernel_rfl) rfl rfl (by simp) (⟨⟨_, _, rfl, rfl, by decide⟩, trivial⟩) rfl rfl (by simp [maxLen])) rfl rfl ?_
  rintro _ w ⟨b39, rfl, h⟩
  refine WL.eff (eff_call Try.call5 (check_ok (N := 4) (ins := [(⟨0, 1, ⟨3, 0, 1, some ⟨b12, 0, none⟩, 8, List.replicate 8 0, 0, 0, 0, false⟩, 1⟩ : InX)]) (row := [(⟨0, 1, 2⟩ : CoX)]) (out := [(⟨0, 1, 8, 0, 0, none, 0, [], 0, 3⟩ : OuX)]) (by decide) (by decide) (by decide) (List.nodup_cons.2 ⟨by simp, List.nodup_nil⟩) h (show Gives _ (Cells 11 (.slice (some ⟨b16, 0, none⟩) [(⟨0, 1, ⟨3, 0, 1, some ⟨b12, 0, none⟩, 8, List.replicate 8 0, 0, 0, 0, false⟩, 1⟩ : InX)].length 1) [(⟨0, 1, ⟨3, 0, 1, some ⟨b12, 0, none⟩, 8, List.replicate 8 0, 0, 0, 0, false⟩, 1⟩ : InX)].length ([(⟨0, 1, ⟨3, 0, 1, some ⟨b12, 0, none⟩, 8, List.replicate 8 0, 0, 0, 0, false⟩, 1⟩ : InX)].flatMap InX.cells)) from ownGives h (v := .slice (some ⟨b16, 0, none⟩) 1 1)) (show Gives _ (Cells 3 (.slice (some ⟨b18, 0, none⟩) [(⟨0, 1, 2⟩ : CoX)].length 1) [(⟨0, 1, 2⟩ : CoX)].length ([(⟨0, 1, 2⟩ : CoX)].flatMap CoX.cells)) from ownGives h (v := .slice (some ⟨b18, 0, none⟩) 1 1)) (show Gives _ (Cells 8 (.slice (some ⟨b39, 0, none⟩) [(⟨0, 1, 8, 0, 0, none, 0, [], 0, 3⟩ : OuX)].length 1) [(⟨0, 1, 8, 0, 0, none, 0, [], 0, 3⟩ : OuX)].length ([(⟨0, 1, 8, 0, 0, none, 0, [], 0, 3⟩ : OuX)].flatMap OuX.cells)) from ownGives h (v := .slice (some ⟨b39, 0, none⟩) 1 1)) (fun x hx => by rw [List.mem_singleton] at hx; subst hx; exact Gives.ownO (v := .slice (some ⟨b12, 0, none⟩) 8 8)) (fun x hx => by rw [List.mem_singleton] at hx; subst hx; exact ⟨okCm0, by show (List.replicate 8 (0 : UInt8)).length ≤ 1000000; decide⟩) (fun x hx => by rw [List.mem_singleton] at hx; subst hx; exact Gives.nilB))) rfl rfl ?_
  rintro v40 w ⟨hv40, h⟩
  have e40 : checkM 4 [(⟨0, 1, ⟨3, 0, 1, some ⟨b12, 0, none⟩, 8, List.replicate 8 0, 0, 0, 0, false⟩, 1⟩ : InX)] [(⟨0, 1, 2⟩ : CoX)] [(⟨0, 1, 8, 0, 0, none, 0, [], 0, 3⟩ : OuX)] = (0, 4) := by kernel_rfl
  rw [e40] at hv40
  subst hv40
  refine WL.val run_move rfl rfl ?_
  refine WL.val (run_extract rfl rfl) rfl rfl ?_
  refine WL.val (run_extract rfl rfl) rfl rfl ?_
  refine WL.val run_assign rfl rfl ?_
  refine WL.val run_assign rfl rfl ?_
  refine WL.nil ?_
  refine W.seq ?_
  refine W.region ?_
  refine WL.val run_move rfl rfl ?_
  refine WL.val run_move rfl rfl ?_
  refine WL.eff (eff_call Try.call6 (replay_ok (N := 4) (ins := [(⟨0, 1, ⟨3, 0, 1, some ⟨b12, 0, none⟩, 8, List.replicate 8 0, 0, 0, 0, false⟩, 1⟩ : InX)]) (row := [(⟨0, 1, 2⟩ : CoX)]) (by decide) (by decide) (by decide) (fun c hc => by rw [List.mem_singleton] at hc; subst hc; exact List.mem_singleton.2 rfl) h (show Gives _ (Cells 11 (.slice (some ⟨b16, 0, none⟩) [(⟨0, 1, ⟨3, 0, 1, some ⟨b12, 0, none⟩, 8, List.replicate 8 0, 0, 0, 0, false⟩, 1⟩ : InX)].length 1) [(⟨0, 1, ⟨3, 0, 1, some ⟨b12, 0, none⟩, 8, List.replicate 8 0, 0, 0, 0, false⟩, 1⟩ : InX)].length ([(⟨0, 1, ⟨3, 0, 1, some ⟨b12, 0, none⟩, 8, List.replicate 8 0, 0, 0, 0, false⟩, 1⟩ : InX)].flatMap InX.cells)) from ownGives h (v := .slice (some ⟨b16, 0, none⟩) 1 1)) (show Gives _ (Cells 3 (.slice (some ⟨b18, 0, none⟩) [(⟨0, 1, 2⟩ : CoX)].length 1) [(⟨0, 1, 2⟩ : CoX)].length ([(⟨0, 1, 2⟩ : CoX)].flatMap CoX.cells)) from ownGives h (v := .slice (some ⟨b18, 0, none⟩) 1 1)) (fun x hx => by rw [List.mem_singleton] at hx; subst hx; exact Gives.ownO (v := .slice (some ⟨b12, 0, none⟩) 8 8)) (fun x hx => by rw [List.mem_singleton] at hx; subst hx; exact ⟨okCm0, by show (List.replicate 8 (0 : UInt8)).length ≤ 1000000; decide⟩))) rfl rfl ?_
  rintro _ w ⟨a46, pool, xs, rfl, hrs, hps, h⟩
  have hxl : xs.length = 1 := by rw [← List.length_map (f := fun x : RV => x.2), hrs, replL_length]; rfl
  refine WL.val run_move rfl rfl ?_
  refine WL.val (run_extract rfl rfl) rfl rfl ?_
  refine WL.val (run_extract rfl rfl) rfl rfl ?_
  refine WL.val run_assign rfl rfl ?_
  refine WL.val run_assign rfl rfl ?_
  refine WL.nil ?_
  refine W.seq ?_
  refine W.region ?_
  refine WL.val run_move rfl rfl ?_
  refine WL.val run_move rfl rfl ?_
  refine WL.val (run_add rfl rfl (by decide) (by decide)) rfl rfl ?_
  refine WL.val (run_eqlT rfl rfl (rfl)) rfl rfl ?_
  refine WL.val run_move rfl rfl ?_
  refine WL.val run_move rfl rfl ?_
  refine WL.val (run_eqlT rfl rfl (rfl)) rfl rfl ?_
  refine WL.val (run_pickT rfl) rfl rfl ?_
  refine WL.val run_move rfl rfl ?_
  refine WL.val run_move rfl rfl ?_
  refine WL.val (run_eqlT rfl rfl (rfl)) rfl rfl ?_
  refine WL.val (run_pickT rfl) rfl rfl ?_
  refine WL.val run_move rfl rfl ?_
  refine WL.val run_move rfl rfl ?_
  refine WL.val (run_eqlT rfl rfl (rfl)) rfl rfl ?_
  refine WL.val (run_pickT rfl) rfl rfl ?_
  refine WL.val run_move rfl rfl ?_
  refine WL.val run_move rfl rfl ?_
  refine WL.val (run_lenSlice Try.underlying43 rfl) rfl rfl ?_
  refine WL.val (run_eqlT rfl rfl (by omega)) rfl rfl ?_
  refine WL.val (run_pickT rfl) rfl rfl ?_
  refine WL.val run_assign rfl rfl ?_
  refine WL.nil ?_
  refine W.ret ?_
  refine bodyQ.r1 (v := .bool _) Try.results4 rfl ?_
  -- path 
  exact ⟨rfl, h.to⟩

end Go.Proofs.Ytdpakoefdpmebaa
