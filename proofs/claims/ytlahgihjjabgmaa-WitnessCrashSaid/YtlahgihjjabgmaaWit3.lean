/-
  The laws of a register on a disk. Lines of walks printed by a program of the prover's.
-/
import Derived.Test.YtlahgihjjabgmaaWit2
namespace Go.Proofs.Ytlahgihjjabgmaa
open Go Go.Sl Go.Sl.ByM Go.Sl.DkM Go.Sl.TwM Go.Sl.WtM
set_option linter.unusedVariables false
set_option linter.unusedSimpArgs false
set_option maxHeartbeats 1000000
set_option maxRecDepth 8000
variable {W0 w : World} {L F : List HProp}

theorem len_enc (e p m : Nat) : (encW e p m).length ≤ 488 := by rw [encW_length]; decide
theorem right_bits {c : Nat} : RightW ((c % 2 ^ 1 : Nat) : Int) ((1 * 2 ^ (c % 2 ^ 1) : Nat) : Int) ∧ RightW ((c % 2 ^ 1 : Nat) : Int) ((3 : Nat) : Int) := by
  have h2 : c % 2 ^ 1 = 0 ∨ c % 2 ^ 1 = 1 := by omega
  rcases h2 with e | e <;> rw [e] <;> decide
theorem shl_bit {c : Nat} : ((1 * 2 ^ (c % 2 ^ 1) : Nat) : Int) ≤ IntKind.max .i64 := by
  have h2 : c % 2 ^ 1 = 0 ∨ c % 2 ^ 1 = 1 := by omega
  rcases h2 with e | e <;> rw [e] <;> decide

theorem wcrash_ok {ax a2 : Option Addr} {cx c2 : Nat} {l : List UInt8} {arm : Int} {picks : List Int} (h : On W0 F w) (C : Gives F (Bytes (.slice ax l.length cx) l)) (C2 : Gives F (Cells 1 (.slice a2 picks.length c2) picks.length (intsV picks))) : Calls Try.prog 12 #[.slice ax l.length cx, .int .i64 arm, .slice a2 picks.length c2] w (Ret fun v w' => v = .bool true ∧ On W0 F w') := by
  refine enter Try.func12 rfl Try.ntmps12 rfl ?_
  refine W.seq ?_
  refine W.region ?_
  refine WL.val run_assign rfl rfl ?_
  refine WL.nil ?_
  refine W.seq ?_
  refine W.seq ?_
  refine W.region ?_
  refine WL.eff (eff_call Try.call43 (wknown_ok h)) rfl rfl ?_
  rintro _ w ⟨rfl, h⟩
  refine WL.val (run_not rfl) rfl rfl ?_
  refine WL.nil ?_
  refine W.condF rfl ?_
  refine W.skip ?_
  refine W.seq ?_
  refine W.seq ?_
  refine W.region ?_
  refine WL.val run_move rfl rfl ?_
  refine WL.val (run_lenSlice Try.underlying22 rfl) rfl rfl ?_
  refine WL.dec (run_gtr rfl rfl) rfl rfl (fun c25 => ?_) (fun c25 => ?_)
  · skip
    refine WL.val run_move rfl rfl ?_
    refine WL.skip rfl rfl ?_
    refine WL.skip rfl rfl ?_
    refine WL.val (run_pickT rfl) rfl rfl ?_
    refine WL.val run_move rfl rfl ?_
    refine WL.skip rfl rfl ?_
    refine WL.skip rfl rfl ?_
    refine WL.val (run_pickT rfl) rfl rfl ?_
    refine WL.val run_move rfl rfl ?_
    refine WL.skip rfl rfl ?_
    refine WL.skip rfl rfl ?_
    refine WL.skip rfl rfl ?_
    refine WL.val (run_pickT rfl) rfl rfl ?_
    refine WL.nil ?_
    refine W.condT rfl ?_
    refine W.seq ?_
    refine W.region ?_
    refine WL.val run_assign rfl rfl ?_
    refine WL.nil ?_
    refine W.ret ?_
    refine bodyQ.r1 (v := .bool _) Try.results12 rfl ?_
    -- path T
    exact ⟨rfl, h.to⟩
  · skip
    refine WL.val run_move rfl rfl ?_
    refine WL.val run_move rfl rfl ?_
    refine WL.dec (run_lss rfl rfl) rfl rfl (fun c28 => ?_) (fun c28 => ?_)
    · skip
      refine WL.val (run_pickF rfl) rfl rfl ?_
      refine WL.val run_move rfl rfl ?_
      refine WL.skip rfl rfl ?_
      refine WL.skip rfl rfl ?_
      refine WL.val (run_pickT rfl) rfl rfl ?_
      refine WL.val run_move rfl rfl ?_
      refine WL.skip rfl rfl ?_
      refine WL.skip rfl rfl ?_
      refine WL.skip rfl rfl ?_
      refine WL.val (run_pickT rfl) rfl rfl ?_
      refine WL.nil ?_
      refine W.condT rfl ?_
      refine W.seq ?_
      refine W.region ?_
      refine WL.val run_assign rfl rfl ?_
      refine WL.nil ?_
      refine W.ret ?_
      refine bodyQ.r1 (v := .bool _) Try.results12 rfl ?_
      -- path FT
      exact ⟨rfl, h.to⟩
    · skip
      refine WL.val (run_pickF rfl) rfl rfl ?_
      refine WL.val run_move rfl rfl ?_
      refine WL.val run_move rfl rfl ?_
      refine WL.dec (run_gtr rfl rfl) rfl rfl (fun c32 => ?_) (fun c32 => ?_)
      · skip
        refine WL.val (run_pickF rfl) rfl rfl ?_
        refine WL.val run_move rfl rfl ?_
        refine WL.skip rfl rfl ?_
        refine WL.skip rfl rfl ?_
        refine WL.skip rfl rfl ?_
        refine WL.val (run_pickT rfl) rfl rfl ?_
        refine WL.nil ?_
        refine W.condT rfl ?_
        refine W.seq ?_
        refine W.region ?_
        refine WL.val run_assign rfl rfl ?_
        refine WL.nil ?_
        refine W.ret ?_
        refine bodyQ.r1 (v := .bool _) Try.results12 rfl ?_
        -- path FFT
        exact ⟨rfl, h.to⟩
      · skip
        refine WL.val (run_pickF rfl) rfl rfl ?_
        refine WL.val run_move rfl rfl ?_
        refine WL.val run_move rfl rfl ?_
        refine WL.val (run_lenSlice Try.underlying24 rfl) rfl rfl ?_
        refine WL.val (run_gtr rfl rfl) rfl rfl ?_
        refine WL.val (run_pickF rfl) rfl rfl ?_
        refine WL.nil ?_
        refine W.condIf rfl (fun c7 => ?_) (fun c7 => ?_)
        · skip
          refine W.seq ?_
          refine W.region ?_
          refine WL.val run_assign rfl rfl ?_
          refine WL.nil ?_
          refine W.ret ?_
          refine bodyQ.r1 (v := .bool _) Try.results12 rfl ?_
          -- path FFFT
          exact ⟨rfl, h.to⟩
        · skip
          refine W.skip ?_
          refine W.seq ?_
          refine W.region ?_
          refine WL.eff (eff_call Try.call16 (new_ok h)) rfl rfl ?_
          rintro _ w hv
          rcases hv with ⟨_, _, b, rfl, h⟩ | ⟨hno, _, _⟩
          rotate_left
          · exact absurd ⟨by decide, by decide⟩ hno
          refine WL.val run_move rfl rfl ?_
          refine WL.val (run_extract rfl rfl) rfl rfl ?_
          refine WL.val (run_extract rfl rfl) rfl rfl ?_
          refine WL.val run_assign rfl rfl ?_
          refine WL.val run_assign rfl rfl ?_
          refine WL.nil ?_
          refine W.seq ?_
          refine W.region ?_
          refine WL.val run_move rfl rfl ?_
          refine WL.val (run_buildS (pl := [(0, 1), (1, 1), (2, 1)]) (out := [.int .u64 _, .int .i64 _, .int .i64 _]) Try.underlying73 Try.zeroValue73 (fun w => by kernel_rfl) rfl (⟨⟨_, _, rfl, rfl, by decide⟩, ⟨⟨_, _, rfl, rfl, by decide⟩, ⟨⟨_, _, rfl, rfl, by decide⟩, trivial⟩⟩⟩) rfl) rfl rfl ?_
          refine WL.eff (eff_call Try.call47 (wformat_ok (d := newD 2) (e := 1) (p := 0) (m := 3) (by decide) (by decide) ⟨by decide, by decide⟩ (by decide) (h.fetch (DiskP 106 110 b (newD 2))))) rfl rfl ?_
          rintro v45 w ⟨hv45, h⟩
          have ob_ := twFormat (v := encW 1 0 3) (len_enc 1 0 3)
          obtain ⟨ef, S1⟩ := ob_
          rw [ef] at h
          have h : On W0 (DiskP 106 110 b (twD [] (secT 1 (encW 1 0 3)) false 0 [] 3) :: _) w := h
          clear hv45 ef
          generalize secT 1 (encW 1 0 3) = x1 at h S1
          refine WL.nil ?_
          refine W.seq ?_
          refine W.region ?_
          refine WL.val run_move rfl rfl ?_
          refine WL.eff (eff_call Try.call48 (wopen_ok (e := 1) (p := 0) (m := 3) (n := 1) S1.opens (by decide) (by decide) (by show (0 : Int) ≤ 2; decide) h)) rfl rfl ?_
          rintro _ w ⟨bw, bt, rfl, h⟩
          refine WL.val run_move rfl rfl ?_
          refine WL.val (run_extract rfl rfl) rfl rfl ?_
          refine WL.val (run_extract rfl rfl) rfl rfl ?_
          refine WL.val run_assign rfl rfl ?_
          refine WL.val run_assign rfl rfl ?_
          refine WL.nil ?_
          refine W.seq ?_
          refine W.region ?_
          refine WL.val run_move rfl rfl ?_
          refine WL.val run_move rfl rfl ?_
          refine WL.val run_move rfl rfl ?_
          refine WL.eff (eff_call Try.call52 (arm_ok (n := arm) (picks := picks) (by omega) (h.fetch (DiskP 106 110 b (twD [] x1 false 0 [] 3))) (Gives.to C2))) rfl rfl ?_
          rintro _ w h
          have ea : armD (twD [] x1 false 0 [] 3) arm picks = twD [] x1 false arm picks 3 := by unfold armD; rw [if_pos (by omega)]; rfl
          rw [ea] at h
          refine WL.nil ?_
          refine W.seq ?_
          refine W.region ?_
          refine WL.val (run_buildS (pl := [(0, 1), (1, 1), (2, 1)]) (out := [.int .u64 _, .int .i64 _, .int .i64 _]) Try.underlying73 Try.zeroValue73 (fun w => by kernel_rfl) rfl (⟨⟨_, _, rfl, rfl, by decide⟩, ⟨⟨_, _, rfl, rfl, by decide⟩, ⟨⟨_, _, rfl, rfl, by decide⟩, trivial⟩⟩⟩) rfl) rfl rfl ?_
          refine WL.eff (eff_alloc h Try.zeroValue73 rfl) rfl rfl ?_
          rintro _ w ⟨b11, rfl, h⟩
          refine WL.eff (eff_storeN (vs := [.int .u64 _, .int .i64 _, .int .i64 _]) h Try.sizeOf73 rfl rfl rfl rfl rfl (fun k _ _ => free0 k)) rfl rfl ?_
          rintro _ w h
          try simp only [splice, List.take_zero, List.take_succ_cons, List.take_nil, List.drop_succ_cons, List.drop_zero, List.drop_nil, List.nil_append, List.cons_append, List.append_nil, List.length_cons, List.length_nil, Nat.zero_add, Nat.reduceAdd] at h
          refine WL.nil ?_
          refine W.seq ?_
          refine W.seq ?_
          refine W.region ?_
          refine WL.val run_assign rfl rfl ?_
          refine WL.nil ?_
          refine W.block ?_
          refine W.loop (fun (i : Nat) env w => i ≤ l.length ∧ ∃ (j : Env) (bw bt e p m n : Nat) (s0 s1 : List UInt8) (a q : Int), env = mkE j [(0, .slice ax l.length cx), (2, .slice a2 picks.length c2), (7, .pointer (some ⟨b, 0, none⟩)), (9, .pointer (some ⟨bw, 0, none⟩)), (11, .pointer (some ⟨b11, 0, none⟩)), (12, .int .i64 (i : Nat))] ∧ e ≤ i + 1 ∧ n ≤ i + 1 ∧ 0 ≤ a ∧ a ≤ 60 ∧ q ≤ 3 + 2 * (i : Int) ∧ RightW (p : Int) (m : Int) ∧ TwS s0 s1 n (encW e p m) ∧ On W0 (blk bw [.pointer (some ⟨bt, 0, none⟩), .int .u64 (e : Int), .int .i64 (p : Int), .int .i64 (m : Int)] 140 :: TwinP 126 bt b 0 n (encW e p m) :: DiskP 106 110 b (twD s0 s1 false a picks q) :: blk b11 [.int .u64 (e : Int), .int .i64 (p : Int), .int .i64 (m : Int)] 73 :: F) w) (fun i => l.length - i) (0) ?_ ?_
          · exact ⟨Nat.zero_le _, _, bw, bt, 1, 0, 3, 1, [], x1, arm, 3, mkE_of ⟨rfl, rfl, rfl, rfl, rfl, rfl, trivial⟩, by decide, by decide, by omega, by omega, by decide, by decide, S1, h.to⟩
          · clear h S1
            rintro i env w ⟨hi, j, bw, bt, e, p, m, n, s0, s1, a, q, rfl, hei, hni, ha0, ha60, hq, hR, I, h⟩
            refine W.seq ?_
            refine W.seq ?_
            refine W.region ?_
            refine WL.val run_move rfl rfl ?_
            refine WL.val run_move rfl rfl ?_
            refine WL.val (run_lenSlice Try.underlying22 rfl) rfl rfl ?_
            refine WL.val (run_lss rfl rfl) rfl rfl ?_
            refine WL.nil ?_
            refine W.condIf rfl (fun c20 => ?_) (fun c20 => ?_)
            · skip
              refine W.skip ?_
              refine W.seq ?_
              refine W.block ?_
              refine W.seq ?_
              have hi2 : i < l.length := by omega
              have ob_ : ∃ c, l[i]? = some c := ⟨l[i]'hi2, List.getElem?_eq_getElem _⟩
              obtain ⟨c, hc⟩ := ob_
              have hcl := c.toNat_lt
              have ob_ := Cells.addr (h.readsTo C) (by omega)
              obtain ⟨ba, oa, haa⟩ := ob_
              subst haa
              refine W.draw Try.follows h (fun w h => ?_)
              refine WT.pure 0 rfl (by kernel_rfl) (fun w' => (run_fieldAddr 0 Try.underlying73 rfl Try.sizeOf40 rfl rfl)) rfl rfl ?_
              refine WT.load1 1 rfl (by kernel_rfl) Try.isAgg40 rfl (h.cellB rfl) rfl rfl ?_
              refine WT.pure 2 rfl (by kernel_rfl) (fun w' => (run_addK (k := .u64) (m := e) (n := 1) rfl rfl (Int.ofNat_le.2 (show _ ≤ 18446744073709551615 by omega)))) rfl rfl ?_
              refine WT.pure 3 rfl (by kernel_rfl) (fun w' => run_move) rfl rfl ?_
              refine WT.pure 4 rfl (by kernel_rfl) (fun w' => run_move) rfl rfl ?_
              refine WT.pure 5 rfl (by kernel_rfl) (fun w' => (run_indexAddr Try.underlying22 Try.sizeOf5 rfl rfl (by omega) (by omega))) rfl rfl ?_
              refine WT.load1 6 rfl (by kernel_rfl) Try.isAgg5 rfl ((h.readsTo C).elem (i := i) (vs := [.int .u8 (c.toNat : Int)]) (by omega) (bytes_row hc) 0 _ rfl) rfl rfl ?_
              refine WT.pure 7 rfl (by kernel_rfl) (fun w' => (run_andMod (k := .u8) 1 (m := c.toNat) (n := 1) rfl rfl (by show _ ≤ (255 : Int); omega) (by decide) rfl)) rfl rfl ?_
              refine WT.pure 8 rfl (by kernel_rfl) (fun w' => (run_convInt64 Try.underlying5 Try.underlying3 rfl (by omega) (by omega))) rfl rfl ?_
              refine WT.pure 9 rfl (by kernel_rfl) (fun w' => (run_buildS (pl := [(0, 1), (1, 1), (2, 1)]) (out := [.int .u64 _, .int .i64 _, .int .i64 _]) Try.underlying73 Try.zeroValue73 (fun w => by kernel_rfl) rfl (⟨⟨_, _, rfl, rfl, by decide⟩, ⟨⟨_, _, rfl, rfl, by decide⟩, ⟨⟨_, _, rfl, rfl, by decide⟩, trivial⟩⟩⟩) rfl)) rfl rfl ?_
              refine WT.eff 10 [true, true] rfl (by kernel_rfl) (by kernel_rfl) (eff_alloc h Try.zeroValue73 rfl) rfl rfl ?_
              rintro _ w ⟨b13, rfl, h⟩
              refine ⟨⟨(h.readsTo C).elem (i := i) (vs := [.int .u8 (c.toNat : Int)]) (by omega) (bytes_row hc) 0 _ rfl, h.cellB rfl, trivial⟩, ?_⟩
              refine WT.eff 11 [false, false] rfl (by kernel_rfl) (by kernel_rfl) (eff_storeN (vs := [.int .u64 _, .int .i64 _, .int .i64 _]) h Try.sizeOf73 rfl rfl rfl rfl rfl (fun k _ _ => free0 k)) rfl rfl ?_
              rintro _ w h
              try simp only [splice, List.take_zero, List.take_succ_cons, List.take_nil, List.drop_succ_cons, List.drop_zero, List.drop_nil, List.nil_append, List.cons_append, List.append_nil, List.length_cons, List.length_nil, Nat.zero_add, Nat.reduceAdd] at h
              refine ⟨trivial, ?_⟩
              refine WT.done (by kernel_rfl) ?_
              refine W.cut (fun env w => ∃ (j : Env) (rm : Nat), env = mkE j [(0, .slice (some ⟨ba, oa, none⟩) l.length cx), (2, .slice a2 picks.length c2), (7, .pointer (some ⟨b, 0, none⟩)), (9, .pointer (some ⟨bw, 0, none⟩)), (11, .pointer (some ⟨b11, 0, none⟩)), (12, .int .i64 (i : Nat)), (13, .pointer (some ⟨b13, 0, none⟩))] ∧ RightW (((c.toNat % 2 ^ 1) : Nat) : Int) (rm : Int) ∧ On W0 (blk b13 [.int .u64 ((e + 1 : Nat) : Int), .int .i64 ((c.toNat % 2 ^ 1) : Nat), .int .i64 (rm : Int)] 73 :: blk bw [.pointer (some ⟨bt, 0, none⟩), .int .u64 (e : Int), .int .i64 (p : Int), .int .i64 (m : Int)] 140 :: TwinP 126 bt b 0 n (encW e p m) :: DiskP 106 110 b (twD s0 s1 false a picks q) :: blk b11 [.int .u64 (e : Int), .int .i64 (p : Int), .int .i64 (m : Int)] 73 :: F) w) ?_ ?_
              · skip
                refine W.seq ?_
                refine W.region ?_
                refine WL.val run_move rfl rfl ?_
                refine WL.val run_move rfl rfl ?_
                refine WL.val (run_indexAddr Try.underlying22 Try.sizeOf5 rfl rfl (by omega) (by omega)) rfl rfl ?_
                refine WL.val (run_load1 Try.isAgg5 rfl ((h.readsTo C).elem (i := i) (vs := [.int .u8 (c.toNat : Int)]) (by omega) (bytes_row hc) 0 _ rfl)) rfl rfl ?_
                refine WL.val (run_andN (k := .u8) (m := c.toNat) (n := 2) rfl rfl (by show _ ≤ (255 : Int); omega) (by decide)) rfl rfl ?_
                refine WL.val (run_eql rfl rfl) rfl rfl ?_
                refine WL.nil ?_
                refine W.condIf rfl (fun c26 => ?_) (fun c26 => ?_)
                · skip
                  try (rw [ed] at h; subst hv88)
                  refine W.region ?_
                  refine WL.val (run_fieldAddr 1 Try.underlying73 rfl Try.sizeOf3 rfl rfl) rfl rfl ?_
                  refine WL.val (run_load1 Try.isAgg3 rfl (h.cellB rfl)) rfl rfl ?_
                  refine WL.val (run_convIn Try.underlying3 Try.underlying62 rfl (by show (0 : Int) ≤ _; omega) (by show _ ≤ (18446744073709551615 : Int); omega)) rfl rfl ?_
                  refine WL.val (run_shlN (k := .i64) (m := 1) (j := (c.toNat % 2 ^ 1)) rfl rfl (by show _ ≤ 64; omega) shl_bit) rfl rfl ?_
                  refine WL.val (run_fieldAddr 2 Try.underlying73 rfl Try.sizeOf3 rfl rfl) rfl rfl ?_
                  refine WL.eff (eff_store (v := .int .i64 _) h Try.sizeOf3 rfl rfl rfl rfl rfl) rfl rfl ?_
                  rintro _ w h
                  try simp only [Nat.zero_add, Nat.add_zero, List.set_cons_zero, List.set_cons_succ] at h
                  refine WL.nil ?_
                  -- to the cut, path FFFFLTT
                  exact ⟨_, 1 * 2 ^ (c.toNat % 2 ^ 1), mkE_of ⟨rfl, rfl, rfl, rfl, rfl, rfl, rfl, trivial⟩, right_bits.1, h.to⟩
                · skip
                  try (rw [ed] at h; rw [h8] at hv88; subst hv88)
                  refine W.skip ?_
                  -- to the cut, path FFFFLTF
                  exact ⟨_, 3, mkE_of ⟨rfl, rfl, rfl, rfl, rfl, rfl, rfl, trivial⟩, right_bits.2, h.to⟩
              · clear h
                rintro env w ⟨j, rm, rfl, hRm, h⟩
                refine W.seq ?_
                refine W.region ?_
                refine WL.val run_move rfl rfl ?_
                refine WL.val (run_fieldAddr 0 Try.underlying73 rfl Try.sizeOf40 rfl rfl) rfl rfl ?_
                refine WL.val (run_load1 Try.isAgg40 rfl (h.cellB rfl)) rfl rfl ?_
                refine WL.val (run_loadB (vs := [.int .u64 _, .int .i64 _, .int .i64 _]) h Try.isAgg73 Try.sizeOf73 rfl rfl rfl) rfl rfl ?_
                refine WL.eff (eff_call Try.call49 (cas_ok (e := e) (p := p) (m := m) (x := e) (e2 := e + 1) (p2 := (c.toNat % 2 ^ 1)) (m2 := rm) (by omega) ⟨rfl, hRm, rfl⟩ ⟨by show q + 2 ≤ _; omega, by show a ≤ _; omega⟩ (by show n + 1 < 18446744073709551616; omega) (((h.fetch (DiskP 106 110 b (twD s0 s1 false a picks q))).fetch (TwinP 126 bt b 0 n (encW e p m))).fetch (blk bw [.pointer (some ⟨bt, 0, none⟩), .int .u64 (e : Int), .int .i64 (p : Int), .int .i64 (m : Int)] 140)))) rfl rfl ?_
                rintro v88 w hg
                have hp := twPut (p := picks) (c := q) I (show n + 1 < 256 ^ 8 by show n + 1 < 18446744073709551616; omega) (len_enc (e + 1) (c.toNat % 2 ^ 1) rm) ha0
                rcases hg with ⟨h0, hv88, h⟩ | ⟨h1, hv88, h⟩ <;> rcases hp with ⟨h8, t0, t1, a1, ed, ha1, ha2, I1⟩ | ⟨h8, t0, t1, q1, ed, hq1, hq2, hsel⟩
                rotate_left
                · exact absurd (h8.symm.trans h0) (by decide)
                · exact absurd h8 h1
                rotate_left
                · skip
                  try (rw [ed] at h; subst hv88)
                  refine WL.val run_move rfl rfl ?_
                  refine WL.val (run_extract rfl rfl) rfl rfl ?_
                  refine WL.val (run_extract rfl rfl) rfl rfl ?_
                  refine WL.val (run_extract rfl rfl) rfl rfl ?_
                  refine WL.eff (eff_alloc h Try.zeroValue73 rfl) rfl rfl ?_
                  rintro _ w ⟨b14, rfl, h⟩
                  refine WL.eff (eff_storeN (vs := [.int .u64 _, .int .i64 _, .int .i64 _]) h Try.sizeOf73 rfl rfl rfl rfl rfl (fun k _ _ => free0 k)) rfl rfl ?_
                  rintro _ w h
                  try simp only [splice, List.take_zero, List.take_succ_cons, List.take_nil, List.drop_succ_cons, List.drop_zero, List.drop_nil, List.nil_append, List.cons_append, List.append_nil, List.length_cons, List.length_nil, Nat.zero_add, Nat.reduceAdd] at h
                  refine WL.val run_assign rfl rfl ?_
                  refine WL.val run_assign rfl rfl ?_
                  refine WL.nil ?_
                  refine W.seq ?_
                  refine W.seq ?_
                  refine W.region ?_
                  refine WL.val run_move rfl rfl ?_
                  refine WL.val (run_eqlT rfl rfl (rfl)) rfl rfl ?_
                  refine WL.nil ?_
                  refine W.condT rfl ?_
                  refine W.seq ?_
                  refine W.seq ?_
                  refine W.region ?_
                  refine WL.val run_move rfl rfl ?_
                  refine WL.val (run_not rfl) rfl rfl ?_
                  refine WL.val run_move rfl rfl ?_
                  refine WL.val (run_loadB (vs := [.int .u64 _, .int .i64 _, .int .i64 _]) h Try.isAgg73 Try.sizeOf73 rfl rfl rfl) rfl rfl ?_
                  refine WL.val (run_loadB (vs := [.int .u64 _, .int .i64 _, .int .i64 _]) h Try.isAgg73 Try.sizeOf73 rfl rfl rfl) rfl rfl ?_
                  refine WL.val (val_false (run_neqI3 Try.underlying73 (by decide) (by decide) (by decide) rfl rfl rfl Try.underlying40 Try.underlying3 Try.underlying3 Try.isAgg40 Try.isAgg3 Try.isAgg3 (by kernel_rfl) (by kernel_rfl) rfl rfl) (fun hh => hh ⟨rfl, rfl, rfl⟩)) rfl rfl ?_
                  refine WL.val (run_pickF rfl) rfl rfl ?_
                  refine WL.nil ?_
                  refine W.condF rfl ?_
                  refine W.skip ?_
                  refine W.seq ?_
                  refine W.region ?_
                  refine WL.val (run_loadB (vs := [.int .u64 _, .int .i64 _, .int .i64 _]) h Try.isAgg73 Try.sizeOf73 rfl rfl rfl) rfl rfl ?_
                  refine WL.eff (eff_storeN (vs := [.int .u64 _, .int .i64 _, .int .i64 _]) h Try.sizeOf73 rfl rfl rfl rfl rfl (fun k _ _ => free0 k)) rfl rfl ?_
                  rintro _ w h
                  try simp only [splice, List.take_zero, List.take_succ_cons, List.take_nil, List.drop_succ_cons, List.drop_zero, List.drop_nil, List.nil_append, List.cons_append, List.append_nil, List.length_cons, List.length_nil, Nat.zero_add, Nat.reduceAdd] at h
                  refine WL.nil ?_
                  refine W.exit ?_
                  refine W.region ?_
                  refine WL.val run_move rfl rfl ?_
                  refine WL.val (run_add rfl rfl (by omega) (by omega)) rfl rfl ?_
                  refine WL.val run_assign rfl rfl ?_
                  refine WL.nil ?_
                  -- round, path FFFFLTT
                  exact ⟨i + 1, ⟨by omega, _, bw, bt, e + 1, (c.toNat % 2 ^ 1), rm, n + 1, t0, t1, a1, q + 2, mkE_of ⟨rfl, rfl, rfl, rfl, rfl, rfl, trivial⟩, by omega, by omega, ha1, by omega, by omega, hRm, I1, h.to⟩, by show l.length - (i + 1) < l.length - i; omega⟩
                · skip
                  try (rw [ed] at h; rw [h8] at hv88; subst hv88)
                  refine WL.val run_move rfl rfl ?_
                  refine WL.val (run_extract rfl rfl) rfl rfl ?_
                  refine WL.val (run_extract rfl rfl) rfl rfl ?_
                  refine WL.val (run_extract rfl rfl) rfl rfl ?_
                  refine WL.eff (eff_alloc h Try.zeroValue73 rfl) rfl rfl ?_
                  rintro _ w ⟨b14, rfl, h⟩
                  refine WL.eff (eff_storeN (vs := [.int .u64 _, .int .i64 _, .int .i64 _]) h Try.sizeOf73 rfl rfl rfl rfl rfl (fun k _ _ => free0 k)) rfl rfl ?_
                  rintro _ w h
                  try simp only [splice, List.take_zero, List.take_succ_cons, List.take_nil, List.drop_succ_cons, List.drop_zero, List.drop_nil, List.nil_append, List.cons_append, List.append_nil, List.length_cons, List.length_nil, Nat.zero_add, Nat.reduceAdd] at h
                  refine WL.val run_assign rfl rfl ?_
                  refine WL.val run_assign rfl rfl ?_
                  refine WL.nil ?_
                  refine W.seq ?_
                  refine W.seq ?_
                  refine W.region ?_
                  refine WL.val run_move rfl rfl ?_
                  refine WL.val (run_eqlF rfl rfl (by decide)) rfl rfl ?_
                  refine WL.nil ?_
                  refine W.condF rfl ?_
                  refine W.skip ?_
                  refine W.seq ?_
                  refine W.seq ?_
                  refine W.region ?_
                  refine WL.val run_move rfl rfl ?_
                  refine WL.val (run_neqF rfl rfl (rfl)) rfl rfl ?_
                  refine WL.val run_move rfl rfl ?_
                  refine WL.val run_move rfl rfl ?_
                  refine WL.val (run_pickF rfl) rfl rfl ?_
                  refine WL.nil ?_
                  refine W.condF rfl ?_
                  refine W.skip ?_
                  refine W.seq ?_
                  refine W.region ?_
                  refine WL.val run_move rfl rfl ?_
                  refine WL.eff (eff_call Try.call20 (don_ok (h.fetch (DiskP 106 110 b (twD t0 t1 true 0 picks q1))))) rfl rfl ?_
                  rintro _ w h
                  have h : On W0 (DiskP 106 110 b (twD t0 t1 false 0 picks q1) :: _) w := h
                  have ob_ : ∃ n3 e3 p3 m3 : Nat, TwS t0 t1 n3 (encW e3 p3 m3) ∧ ((n3 = n ∧ e3 = e ∧ p3 = p ∧ m3 = m) ∨ (n3 = n + 1 ∧ e3 = e + 1 ∧ p3 = (c.toNat % 2 ^ 1) ∧ m3 = rm)) ∧ RightW (p3 : Int) (m3 : Int) := by
                    rcases hsel with I3 | I3
                    · exact ⟨n, e, p, m, I3, .inl ⟨rfl, rfl, rfl, rfl⟩, hR⟩
                    · exact ⟨n + 1, e + 1, (c.toNat % 2 ^ 1), rm, I3, .inr ⟨rfl, rfl, rfl, rfl⟩, hRm⟩
                  obtain ⟨n3, e3, p3, m3, I3, hs3, hR3⟩ := ob_
                  refine WL.nil ?_
                  refine W.seq ?_
                  refine W.region ?_
                  refine WL.val run_move rfl rfl ?_
                  refine WL.eff (eff_call Try.call48 (wopen_ok (e := e3) (p := p3) (m := m3) (n := n3) I3.opens hR3 (by omega) (by show (0 : Int) ≤ 2; decide) h)) rfl rfl ?_
                  rintro _ w ⟨bw2, bt2, rfl, h⟩
                  refine WL.val run_move rfl rfl ?_
                  refine WL.val (run_extract rfl rfl) rfl rfl ?_
                  refine WL.val (run_extract rfl rfl) rfl rfl ?_
                  refine WL.val run_assign rfl rfl ?_
                  refine WL.val run_assign rfl rfl ?_
                  refine WL.nil ?_
                  refine W.seq ?_
                  refine W.seq ?_
                  refine W.draw Try.follows h (fun w h => ?_)
                  refine WT.pure 0 rfl (by kernel_rfl) (fun w' => run_move) rfl rfl ?_
                  refine WT.pure 1 rfl (by kernel_rfl) (fun w' => run_neqF rfl rfl (rfl)) rfl rfl ?_
                  refine WT.pure 2 rfl (by kernel_rfl) (fun w' => run_move) rfl rfl ?_
                  refine WT.pure 3 rfl (by kernel_rfl) (fun w' => run_move) rfl rfl ?_
                  refine WT.pure 4 rfl (by kernel_rfl) (fun w' => (run_eqlPtrNil Try.underlying80 rfl rfl)) rfl rfl ?_
                  refine WT.pure 5 rfl (by kernel_rfl) (fun w' => (run_pickF rfl)) rfl rfl ?_
                  refine WT.pure 6 rfl (by kernel_rfl) (fun w' => run_move) rfl rfl ?_
                  refine WT.pure 7 rfl (by kernel_rfl) (fun w' => run_move) rfl rfl ?_
                  refine WT.loadN (vs := [.int .u64 _, .int .i64 _, .int .i64 _]) 9 rfl (by kernel_rfl) Try.isAgg73 Try.sizeOf73 rfl rfl (h.rowV (n := 3) rfl) rfl rfl ?_
                  refine WT.eff 8 [true] rfl (by kernel_rfl) (by kernel_rfl) (eff_call Try.call51 (wget_ok (bw := bw2) (bt := bt2) (e := e3) (p := p3) (m := m3) (h.fetch (blk bw2 [.pointer (some ⟨bt2, 0, none⟩), .int .u64 (e3 : Int), .int .i64 (p3 : Int), .int .i64 (m3 : Int)] 140)))) rfl rfl ?_
                  rintro _ w ⟨rfl, h⟩
                  refine ⟨⟨(h.rowV (n := 3) rfl), trivial⟩, ?_⟩
                  refine WT.dec 10 rfl (by kernel_rfl) (fun w' => (run_neqI3 Try.underlying73 (by decide) (by decide) (by decide) rfl rfl rfl Try.underlying40 Try.underlying3 Try.underlying3 Try.isAgg40 Try.isAgg3 Try.isAgg3 (by kernel_rfl) (by kernel_rfl) rfl rfl)) rfl rfl (fun c124 => ?_) (fun c124 => ?_)
                  · skip
                    refine WT.pure 11 rfl (by kernel_rfl) (fun w' => run_move) rfl rfl ?_
                    refine WT.pure 12 rfl (by kernel_rfl) (fun w' => run_move) rfl rfl ?_
                    refine WT.loadN (vs := [.int .u64 _, .int .i64 _, .int .i64 _]) 14 rfl (by kernel_rfl) Try.isAgg73 Try.sizeOf73 rfl rfl (h.rowV (n := 3) rfl) rfl rfl ?_
                    refine WT.eff 13 [true, false] rfl (by kernel_rfl) (by kernel_rfl) (eff_call Try.call51 (wget_ok (bw := bw2) (bt := bt2) (e := e3) (p := p3) (m := m3) (h.fetch (blk bw2 [.pointer (some ⟨bt2, 0, none⟩), .int .u64 (e3 : Int), .int .i64 (p3 : Int), .int .i64 (m3 : Int)] 140)))) rfl rfl ?_
                    rintro _ w ⟨rfl, h⟩
                    refine ⟨⟨(h.rowV (n := 3) rfl), trivial⟩, ?_⟩
                    refine WT.pure 15 rfl (by kernel_rfl) (fun w' => (val_false (run_neqI3 Try.underlying73 (by decide) (by decide) (by decide) rfl rfl rfl Try.underlying40 Try.underlying3 Try.underlying3 Try.isAgg40 Try.isAgg3 Try.isAgg3 (by kernel_rfl) (by kernel_rfl) rfl rfl) (fun hh => by omega))) rfl rfl ?_
                    refine WT.pure 16 rfl (by kernel_rfl) (fun w' => (run_pickT rfl)) rfl rfl ?_
                    refine WT.pure 17 rfl (by kernel_rfl) (fun w' => (run_pickF rfl)) rfl rfl ?_
                    refine WT.done (by kernel_rfl) ?_
                    refine W.condF rfl ?_
                    refine W.skip ?_
                    refine W.seq ?_
                    refine W.region ?_
                    refine WL.val run_move rfl rfl ?_
                    refine WL.val run_assign rfl rfl ?_
                    refine WL.nil ?_
                    refine W.region ?_
                    refine WL.val run_move rfl rfl ?_
                    refine WL.eff (eff_call Try.call51 (wget_ok (bw := bw2) (bt := bt2) (e := e3) (p := p3) (m := m3) (h.fetch (blk bw2 [.pointer (some ⟨bt2, 0, none⟩), .int .u64 (e3 : Int), .int .i64 (p3 : Int), .int .i64 (m3 : Int)] 140)))) rfl rfl ?_
                    rintro _ w ⟨rfl, h⟩
                    refine WL.eff (eff_storeN (vs := [.int .u64 _, .int .i64 _, .int .i64 _]) h Try.sizeOf73 rfl rfl rfl rfl rfl (fun k _ _ => free0 k)) rfl rfl ?_
                    rintro _ w h
                    try simp only [splice, List.take_zero, List.take_succ_cons, List.take_nil, List.drop_succ_cons, List.drop_zero, List.drop_nil, List.nil_append, List.cons_append, List.append_nil, List.length_cons, List.length_nil, Nat.zero_add, Nat.reduceAdd] at h
                    refine WL.nil ?_
                    refine W.region ?_
                    refine WL.val run_move rfl rfl ?_
                    refine WL.val (run_add rfl rfl (by omega) (by omega)) rfl rfl ?_
                    refine WL.val run_assign rfl rfl ?_
                    refine WL.nil ?_
                    -- round, path FFFFLTFT
                    exact ⟨i + 1, ⟨by omega, _, bw2, bt2, e3, p3, m3, n3, t0, t1, 0, q1, mkE_of ⟨rfl, rfl, rfl, rfl, rfl, rfl, trivial⟩, by omega, by omega, Int.le_refl 0, by omega, by omega, hR3, I3, h.to⟩, by show l.length - (i + 1) < l.length - i; omega⟩
                  · skip
                    refine WT.pure 11 rfl (by kernel_rfl) (fun w' => run_move) rfl rfl ?_
                    refine WT.skip 12 rfl (by kernel_rfl) rfl rfl ?_
                    refine WT.skip 13 rfl (by kernel_rfl) rfl rfl ?_
                    refine WT.skip 14 rfl (by kernel_rfl) rfl rfl ?_
                    refine WT.skip 15 rfl (by kernel_rfl) rfl rfl ?_
                    refine WT.pure 16 rfl (by kernel_rfl) (fun w' => (run_pickF rfl)) rfl rfl ?_
                    refine WT.pure 17 rfl (by kernel_rfl) (fun w' => (run_pickF rfl)) rfl rfl ?_
                    refine WT.done (by kernel_rfl) ?_
                    refine W.condF rfl ?_
                    refine W.skip ?_
                    refine W.seq ?_
                    refine W.region ?_
                    refine WL.val run_move rfl rfl ?_
                    refine WL.val run_assign rfl rfl ?_
                    refine WL.nil ?_
                    refine W.region ?_
                    refine WL.val run_move rfl rfl ?_
                    refine WL.eff (eff_call Try.call51 (wget_ok (bw := bw2) (bt := bt2) (e := e3) (p := p3) (m := m3) (h.fetch (blk bw2 [.pointer (some ⟨bt2, 0, none⟩), .int .u64 (e3 : Int), .int .i64 (p3 : Int), .int .i64 (m3 : Int)] 140)))) rfl rfl ?_
                    rintro _ w ⟨rfl, h⟩
                    refine WL.eff (eff_storeN (vs := [.int .u64 _, .int .i64 _, .int .i64 _]) h Try.sizeOf73 rfl rfl rfl rfl rfl (fun k _ _ => free0 k)) rfl rfl ?_
                    rintro _ w h
                    try simp only [splice, List.take_zero, List.take_succ_cons, List.take_nil, List.drop_succ_cons, List.drop_zero, List.drop_nil, List.nil_append, List.cons_append, List.append_nil, List.length_cons, List.length_nil, Nat.zero_add, Nat.reduceAdd] at h
                    refine WL.nil ?_
                    refine W.region ?_
                    refine WL.val run_move rfl rfl ?_
                    refine WL.val (run_add rfl rfl (by omega) (by omega)) rfl rfl ?_
                    refine WL.val run_assign rfl rfl ?_
                    refine WL.nil ?_
                    -- round, path FFFFLTFF
                    exact ⟨i + 1, ⟨by omega, _, bw2, bt2, e3, p3, m3, n3, t0, t1, 0, q1, mkE_of ⟨rfl, rfl, rfl, rfl, rfl, rfl, trivial⟩, by omega, by omega, Int.le_refl 0, by omega, by omega, hR3, I3, h.to⟩, by show l.length - (i + 1) < l.length - i; omega⟩
            · skip
              refine W.exit ?_
              refine W.seq ?_
              refine W.region ?_
              refine WL.val run_move rfl rfl ?_
              refine WL.val run_move rfl rfl ?_
              refine WL.eff (eff_call Try.call19 (crashP (picks := picks) (d := (twD s0 s1 false a picks q)) (by show q ≤ _; omega) (h.fetch (DiskP 106 110 b (twD s0 s1 false a picks q))) (Gives.to C2))) rfl rfl ?_
              rintro _ w h
              rw [twCrash] at h
              refine WL.nil ?_
              refine W.seq ?_
              refine W.region ?_
              refine WL.val run_move rfl rfl ?_
              refine WL.eff (eff_call Try.call20 (don_ok h)) rfl rfl ?_
              rintro _ w h
              have h : On W0 (DiskP 106 110 b (twD s0 s1 false 0 picks q) :: _) w := h
              refine WL.nil ?_
              refine W.seq ?_
              refine W.region ?_
              refine WL.val run_move rfl rfl ?_
              refine WL.eff (eff_call Try.call48 (wopen_ok (e := e) (p := p) (m := m) (n := n) I.opens hR (by omega) (by show (0 : Int) ≤ 2; decide) h)) rfl rfl ?_
              rintro _ w ⟨bw2, bt2, rfl, h⟩
              refine WL.val run_move rfl rfl ?_
              refine WL.val (run_extract rfl rfl) rfl rfl ?_
              refine WL.val (run_extract rfl rfl) rfl rfl ?_
              refine WL.val run_assign rfl rfl ?_
              refine WL.val run_assign rfl rfl ?_
              refine WL.nil ?_
              refine W.seq ?_
              refine W.draw Try.follows h (fun w h => ?_)
              refine WT.pure 0 rfl (by kernel_rfl) (fun w' => run_move) rfl rfl ?_
              refine WT.pure 1 rfl (by kernel_rfl) (fun w' => run_eqlT rfl rfl (rfl)) rfl rfl ?_
              refine WT.pure 2 rfl (by kernel_rfl) (fun w' => run_move) rfl rfl ?_
              refine WT.pure 3 rfl (by kernel_rfl) (fun w' => run_move) rfl rfl ?_
              refine WT.pure 4 rfl (by kernel_rfl) (fun w' => (run_neqPtrNil Try.underlying80 rfl rfl)) rfl rfl ?_
              refine WT.pure 5 rfl (by kernel_rfl) (fun w' => (run_pickT rfl)) rfl rfl ?_
              refine WT.pure 6 rfl (by kernel_rfl) (fun w' => run_move) rfl rfl ?_
              refine WT.pure 7 rfl (by kernel_rfl) (fun w' => run_move) rfl rfl ?_
              refine WT.loadN (vs := [.int .u64 _, .int .i64 _, .int .i64 _]) 9 rfl (by kernel_rfl) Try.isAgg73 Try.sizeOf73 rfl rfl (h.rowV (n := 3) rfl) rfl rfl ?_
              refine WT.eff 8 [true] rfl (by kernel_rfl) (by kernel_rfl) (eff_call Try.call51 (wget_ok (bw := bw2) (bt := bt2) (e := e) (p := p) (m := m) (h.fetch (blk bw2 [.pointer (some ⟨bt2, 0, none⟩), .int .u64 (e : Int), .int .i64 (p : Int), .int .i64 (m : Int)] 140)))) rfl rfl ?_
              rintro _ w ⟨rfl, h⟩
              refine ⟨⟨(h.rowV (n := 3) rfl), trivial⟩, ?_⟩
              refine WT.pure 10 rfl (by kernel_rfl) (fun w' => (val_true (run_eqlI3 Try.underlying73 (by decide) (by decide) (by decide) rfl rfl rfl Try.underlying40 Try.underlying3 Try.underlying3 Try.isAgg40 Try.isAgg3 Try.isAgg3 (by kernel_rfl) (by kernel_rfl) rfl rfl) (⟨rfl, rfl, rfl⟩))) rfl rfl ?_
              refine WT.pure 11 rfl (by kernel_rfl) (fun w' => (run_pickT rfl)) rfl rfl ?_
              refine WT.pure 12 rfl (by kernel_rfl) (fun w' => run_assign) rfl rfl ?_
              refine WT.done (by kernel_rfl) ?_
              refine W.ret ?_
              refine bodyQ.r1 (v := .bool _) Try.results12 rfl ?_
              -- path FFFFLF
              exact ⟨rfl, h.to⟩

end Go.Proofs.Ytlahgihjjabgmaa
