/-
  Sums: the contracts. Lines of walks printed by a program of the prover's.
-/
import Derived.Test.YtlahgihjjabgmaaBin
namespace Go.Proofs.Ytlahgihjjabgmaa
open Go Go.Sl Go.Sl.ByM
set_option linter.unusedVariables false
set_option linter.unusedSimpArgs false
set_option maxHeartbeats 1000000
set_option maxRecDepth 8000
variable {W0 w : World} {L F : List HProp}

theorem pad_ok {ax : Option Addr} {cx : Nat} {bs : List UInt8} {to : Nat} (h : On W0 L w) (C : Gives L (Bytes (.slice ax bs.length cx) bs)) (hb0 : 0 < bs.length) (hb : bs.length ≤ to) (ht : to ≤ 4096) : Calls Try.prog 75 #[.slice ax bs.length cx, .int .i64 (to : Int)] (w) (Ret fun r w' => ∃ a, r = .slice a (padB bs to).length (padB bs to).length ∧ On W0 (OwnB (.slice a (padB bs to).length (padB bs to).length) (padB bs to) :: L) w') := by
  refine enter Try.func75 rfl Try.ntmps75 rfl ?_
  have hmx := maxLen_eq
  refine W.seq ?_
  refine W.region ?_
  refine WL.val run_assign rfl rfl ?_
  refine WL.nil ?_
  refine W.seq ?_
  refine W.region ?_
  refine WL.val run_move rfl rfl ?_
  refine WL.eff (eff_call Try.call68 (clone_bytes h C (by omega))) rfl rfl ?_
  rintro _ w ⟨a7, c7, rfl, h⟩
  refine WL.val run_assign rfl rfl ?_
  refine WL.nil ?_
  refine W.seq ?_
  refine W.seq ?_
  refine W.region ?_
  refine WL.val run_move rfl rfl ?_
  refine WL.val (run_lssF rfl rfl (by omega)) rfl rfl ?_
  refine WL.val run_move rfl rfl ?_
  refine WL.val run_move rfl rfl ?_
  refine WL.val (run_gtrF rfl rfl (by omega)) rfl rfl ?_
  refine WL.val (run_pickF rfl) rfl rfl ?_
  refine WL.nil ?_
  refine W.condF rfl ?_
  refine W.skip ?_
  refine W.seq ?_
  refine W.block ?_
  refine W.loop (fun (k : Nat) env w => bs.length + k ≤ to ∧ ∃ (j : Env) (ao : Option Addr) (co : Nat), env = mkE j [(1, .int .i64 (to : Int)), (5, .slice ao (bs ++ List.replicate k 0).length co)] ∧ On W0 (OwnB (.slice ao (bs ++ List.replicate k 0).length co) (bs ++ List.replicate k 0) :: L) w) (fun k => to - k) (0) ?_ ?_
  · have e0 : bs ++ List.replicate 0 0 = bs := by simp
    exact ⟨by omega, _, a7, c7, mkE_of ⟨rfl, (by rw [e0]; rfl), trivial⟩, (by rw [e0]; exact h)⟩
  · rintro k env w ⟨hk, j, ao, co, rfl, h⟩
    have hpl : (bs ++ List.replicate k 0).length = bs.length + k := by rw [List.length_append, List.length_replicate]
    refine W.seq ?_
    refine W.seq ?_
    refine W.region ?_
    refine WL.val run_move rfl rfl ?_
    refine WL.val (run_lenSlice Try.underlying22 rfl) rfl rfl ?_
    refine WL.val run_move rfl rfl ?_
    refine WL.val (run_rem rfl rfl (by omega) (by omega)) rfl rfl ?_
    refine WL.dec (run_neq rfl rfl) rfl rfl (fun c19 => ?_) (fun c19 => ?_)
    · skip
      refine WL.nil ?_
      refine W.condT rfl ?_
      refine W.skip ?_
      refine W.block ?_
      have hlt : bs.length + k < to := by
        by_cases e : bs.length + k = to
        · exfalso
          apply c19
          rw [hpl, e]
          exact Int.emod_self
        · omega
      refine W.region ?_
      refine WL.val run_move rfl rfl ?_
      refine WL.eff (eff_mkSlice (zl := [.int .u8 0]) (out := [.int .u8 _]) h Try.underlying22 Try.sizeOf5 Try.zeroValue5 (by decide) (by kernel_rfl) rfl rfl (by simp) (⟨⟨_, _, rfl, rfl, by decide⟩, trivial⟩) rfl rfl (by simp [maxLen])) rfl rfl ?_
      rintro _ w ⟨b21, rfl, h⟩
      refine WL.eff (eff_app (c2 := 1) (bytes := 1) h rfl rfl (h.cellsO (v := .slice (some ⟨b21, 0, none⟩) 1 1)) Try.underlying22 rfl rfl rfl rfl rfl (by omega) (by omega) (by simp [Value.oneCell'])) rfl rfl ?_
      rintro _ w ⟨a22, c22, rfl, h⟩
      have hbv : bytesV (bs ++ List.replicate k 0) ++ [.int .u8 0] = bytesV ((bs ++ List.replicate k 0) ++ [0]) := by simp [bytesV, byteV]
      rw [hbv] at h
      refine WL.val run_assign rfl rfl ?_
      refine WL.nil ?_
      -- round, path LT
      have e1 : bs ++ List.replicate (k + 1) 0 = (bs ++ List.replicate k 0) ++ [0] := by rw [List.replicate_succ', List.append_assoc]
      have el : (bs ++ List.replicate (k + 1) 0).length = (bs ++ List.replicate k 0).length + 1 := by rw [e1, List.length_append]; rfl
      exact ⟨k + 1, ⟨by omega, _, a22, c22, mkE_of ⟨rfl, (by rw [el]; rfl), trivial⟩, (by unfold OwnB; rw [el, e1]; exact h.to)⟩, by show to - (k + 1) < to - k; omega⟩
    · skip
      refine WL.nil ?_
      refine W.condF rfl ?_
      refine W.exit ?_
      refine W.seq ?_
      refine W.region ?_
      refine WL.val run_move rfl rfl ?_
      refine WL.eff (eff_call Try.call81 (clip_bytes h)) rfl rfl ?_
      rintro _ w ⟨rfl, h⟩
      refine WL.val run_assign rfl rfl ?_
      refine WL.nil ?_
      refine W.ret ?_
      refine bodyQ.r1 (v := .slice _ _ _) Try.results75 rfl ?_
      -- path LF
      have hend : bs.length + k = to := by
        have c19' := Decidable.not_not.1 c19
        rw [hpl] at c19'
        by_cases e : bs.length + k = to
        · exact e
        · exfalso
          have h1 : (((bs.length + k : Nat) : Int)) % (to : Int) = ((bs.length + k : Nat) : Int) := Int.emod_eq_of_lt (by omega) (by omega)
          omega
      have e2 : padB bs to = (bs ++ List.replicate k 0) := by unfold padB; rw [show to - bs.length = k by omega]
      rw [e2]
      exact ⟨ao, rfl, h⟩

theorem table_ok (h : On W0 L w) : Calls Try.prog 131 #[] w (Ret fun v w' => v = .agg (tabL 16).toArray ∧ On W0 L w') := by
  refine enter Try.func131 rfl Try.ntmps131 rfl ?_
  refine W.seq ?_
  refine W.region ?_
  refine WL.eff (eff_alloc h Try.zeroValue177 rfl) rfl rfl ?_
  rintro _ w ⟨b0, rfl, h⟩
  refine WL.nil ?_
  refine W.seq ?_
  refine W.region ?_
  refine WL.eff (eff_alloc h Try.zeroValue177 rfl) rfl rfl ?_
  rintro _ w ⟨b1, rfl, h⟩
  refine WL.nil ?_
  refine W.seq ?_
  refine W.seq ?_
  have h := Own.ofBlk (n := 16) (size := 1) h rfl (by decide)
  have h : On W0 (Own 1 (.slice (some ⟨b1, 0, none⟩) 16 16) 16 (tabL 0) :: blk b0 [.int .u32 0, .int .u32 0, .int .u32 0, .int .u32 0, .int .u32 0, .int .u32 0, .int .u32 0, .int .u32 0, .int .u32 0, .int .u32 0, .int .u32 0, .int .u32 0, .int .u32 0, .int .u32 0, .int .u32 0, .int .u32 0] 177 :: L) w := h
  refine W.region ?_
  refine WL.val run_move rfl rfl ?_
  refine WL.nil ?_
  refine W.block ?_
  refine W.loop (fun (i : Nat) env w => i ≤ 16 ∧ ∃ j, env = mkE j [(0, .pointer (some ⟨b0, 0, none⟩)), (1, .pointer (some ⟨b1, 0, none⟩)), (4, .int .i64 (i : Nat))] ∧ On W0 (Own 1 (.slice (some ⟨b1, 0, none⟩) 16 16) 16 (tabL i) :: blk b0 [.int .u32 0, .int .u32 0, .int .u32 0, .int .u32 0, .int .u32 0, .int .u32 0, .int .u32 0, .int .u32 0, .int .u32 0, .int .u32 0, .int .u32 0, .int .u32 0, .int .u32 0, .int .u32 0, .int .u32 0, .int .u32 0] 177 :: L) w) (fun i => 16 - i) (0) ?_ ?_
  · exact ⟨by omega, _, mkE_of ⟨rfl, rfl, rfl, trivial⟩, h⟩
  · rintro i env w ⟨hi, j, rfl, h⟩
    refine W.seq ?_
    refine W.region ?_
    refine WL.val (run_lss rfl rfl) rfl rfl ?_
    refine WL.nil ?_
    refine W.seq ?_
    refine W.condIf rfl (fun c6 => ?_) (fun c6 => ?_)
    · skip
      refine W.skip ?_
      refine W.seq ?_
      refine W.block ?_
      refine W.seq ?_
      refine W.region ?_
      refine WL.val run_move rfl rfl ?_
      refine WL.val run_assign rfl rfl ?_
      refine WL.nil ?_
      refine W.seq ?_
      have hi16 : i < 16 := by omega
      refine W.region ?_
      refine WL.val run_move rfl rfl ?_
      refine WL.val (run_convIn Try.underlying3 Try.underlying59 rfl (by show (0 : Int) ≤ _; omega) (by show _ ≤ (4294967295 : Int); omega)) rfl rfl ?_
      refine WL.val run_assign rfl rfl ?_
      refine WL.nil ?_
      refine W.seq ?_
      refine W.seq ?_
      refine W.region ?_
      refine WL.val run_move rfl rfl ?_
      refine WL.nil ?_
      refine W.block ?_
      refine W.loop (fun (k : Nat) env w => k ≤ 4 ∧ ∃ j, env = mkE j [(0, .pointer (some ⟨b0, 0, none⟩)), (1, .pointer (some ⟨b1, 0, none⟩)), (2, .int .i64 (i : Nat)), (3, .int .u32 (itS k i : Nat)), (4, .int .i64 (i : Nat)), (9, .int .i64 (k : Nat))] ∧ On W0 (Own 1 (.slice (some ⟨b1, 0, none⟩) 16 16) 16 (tabL i) :: blk b0 [.int .u32 0, .int .u32 0, .int .u32 0, .int .u32 0, .int .u32 0, .int .u32 0, .int .u32 0, .int .u32 0, .int .u32 0, .int .u32 0, .int .u32 0, .int .u32 0, .int .u32 0, .int .u32 0, .int .u32 0, .int .u32 0] 177 :: L) w) (fun k => 4 - k) (0) ?_ ?_
      · exact ⟨by omega, _, mkE_of ⟨rfl, rfl, rfl, rfl, rfl, rfl, trivial⟩, h⟩
      · rintro k env w ⟨hk, j, rfl, h⟩
        have hlt : itS k i < 4294967296 := itS_lt (by omega) k
        have hlt1 := sN_lt hlt
        have hm2 : itS k i % 2 ^ 1 < 2 := Nat.mod_lt _ (by decide)
        refine W.seq ?_
        refine W.region ?_
        refine WL.val (run_lss rfl rfl) rfl rfl ?_
        refine WL.nil ?_
        refine W.seq ?_
        refine W.condIf rfl (fun c16 => ?_) (fun c16 => ?_)
        · skip
          refine W.skip ?_
          refine W.seq ?_
          refine W.block ?_
          refine W.region ?_
          refine WL.val run_move rfl rfl ?_
          refine WL.val (run_shrN (m := itS k i) (j := 1) rfl rfl (by decide)) rfl rfl ?_
          refine WL.val run_move rfl rfl ?_
          refine WL.val (run_andMod (k := .u32) 1 (m := itS k i) (n := 1) rfl rfl (Int.ofNat_le.2 (show _ ≤ 4294967295 by omega)) (by decide) rfl) rfl rfl ?_
          refine WL.val (run_negBit (m := itS k i % 2 ^ 1) rfl hm2) rfl rfl ?_
          refine WL.val (run_andN (k := .u32) (m := itS k i % 2 ^ 1 * 4294967295) (n := poly) rfl rfl (Int.ofNat_le.2 (show _ ≤ 4294967295 by omega)) (by decide)) rfl rfl ?_
          refine WL.val (run_xorN (k := .u32) (m := itS k i / 2 ^ 1) (n := itS k i % 2 ^ 1 * 4294967295 &&& poly) rfl rfl (Int.ofNat_le.2 (show _ ≤ 4294967295 by omega)) (Int.ofNat_le.2 (show _ ≤ 4294967295 from Nat.le_trans Nat.and_le_right (by decide))) (Int.ofNat_le.2 (show _ ≤ 4294967295 by rw [step_mask]; omega))) rfl rfl ?_
          refine WL.val run_assign rfl rfl ?_
          refine WL.nil ?_
          refine W.region ?_
          refine WL.val (run_add rfl rfl (by omega) (by omega)) rfl rfl ?_
          refine WL.val run_move rfl rfl ?_
          refine WL.nil ?_
          -- round, path LTLT
          exact ⟨k + 1, ⟨by omega, _, mkE_of ⟨rfl, rfl, rfl, (congrArg (fun z : Nat => Value.int .u32 (z : Int)) (step_mask (itS k i))), rfl, rfl, trivial⟩, h⟩, by show 4 - (k + 1) < 4 - k; omega⟩
        · skip
          refine W.exit ?_
          have hk4 : k = 4 := by omega
          subst hk4
          refine W.region ?_
          refine WL.val run_move rfl rfl ?_
          refine WL.val run_move rfl rfl ?_
          refine WL.val (run_indexAddrArr Try.underlying177 Try.sizeOf59 rfl rfl (by omega) (by omega)) rfl rfl ?_
          refine WL.eff (eff_storeOwn (v := .int .u32 (itS 4 i : Nat)) (k := i * 1) h Try.sizeOf59 rfl rfl rfl (by omega)) rfl rfl ?_
          rintro _ w h
          refine WL.nil ?_
          refine W.region ?_
          refine WL.val (run_add rfl rfl (by omega) (by omega)) rfl rfl ?_
          refine WL.val run_move rfl rfl ?_
          refine WL.nil ?_
          -- round, path LTLF
          rw [itS4, tabL_set i hi16] at h
          exact ⟨i + 1, ⟨by omega, _, mkE_of ⟨rfl, rfl, rfl, trivial⟩, h⟩, by show 16 - (i + 1) < 16 - i; omega⟩
    · skip
      refine W.exit ?_
      refine W.seq ?_
      have hi16 : i = 16 := by omega
      subst hi16
      refine W.region ?_
      refine WL.val (run_loadN Try.isAgg177 Try.sizeOf177 rfl rfl (fun j u hj => (h.cellsO (v := .slice (some ⟨b1, 0, none⟩) 16 16)).cell rfl (by omega) hj)) rfl rfl ?_
      refine WL.eff (eff_storeN (vs := tabL 16) h Try.sizeOf177 rfl rfl (tabL_length 16) (by simpa using tabL_one 16) rfl (fun k _ _ => free0 k)) rfl rfl ?_
      rintro _ w h
      rw [take_splice0 (by rw [tabL_length]; rfl)] at h
      refine WL.nil ?_
      refine W.ret ?_
      refine bodyQ.rcB (vs := tabL 16) h Try.results131 Try.isAgg177 Try.sizeOf177 rfl rfl (tabL_length 16) ?_
      -- path LF
      exact ⟨rfl, h.to⟩

theorem run_ok {ax : Option Addr} {cx : Nat} {bs : List UInt8} {s : Nat} (hs : s < 4294967296) (h : On W0 L w) (C : Gives L (Bytes (.slice ax bs.length cx) bs)) : Calls Try.prog 130 #[.agg (tabL 16).toArray, .int .u32 (s : Int), .slice ax bs.length cx] w (Ret fun v w' => v = .int .u32 ((4294967295 ^^^ crcR (4294967295 ^^^ s) bs : Nat) : Int) ∧ On W0 L w') := by
  refine enter Try.func130 rfl Try.ntmps130 rfl ?_
  have hmx := maxLen_eq
  have ob_ := Cells.bounds (h.readsTo C)
  obtain ⟨hbc, hbm⟩ := ob_
  have hs0 : 4294967295 ^^^ s < 4294967296 := Nat.xor_lt_two_pow (n := 32) (by decide) hs
  refine W.seq ?_
  refine W.region ?_
  refine WL.eff (eff_box (v := .agg (tabL 16).toArray) (l := tabL 16) h rfl rfl) rfl rfl ?_
  rintro _ w ⟨b3, rfl, h⟩
  have h := Own.ofBlk (n := 16) (size := 1) h (tabL_length 16) (by decide)
  refine WL.val run_assign rfl rfl ?_
  refine WL.nil ?_
  refine W.seq ?_
  refine W.region ?_
  refine WL.val run_move rfl rfl ?_
  refine WL.val (run_compl32 rfl hs) rfl rfl ?_
  refine WL.val run_assign rfl rfl ?_
  refine WL.nil ?_
  refine W.seq ?_
  refine W.seq ?_
  refine W.region ?_
  refine WL.val run_move rfl rfl ?_
  refine WL.val (run_lenSlice Try.underlying22 rfl) rfl rfl ?_
  refine WL.val run_move rfl rfl ?_
  refine WL.nil ?_
  refine W.block ?_
  refine W.loop (fun (k : Nat) env w => k ≤ bs.length ∧ ∃ j, env = mkE j [(3, .pointer (some ⟨b3, 0, none⟩)), (7, .int .u32 (crcR (4294967295 ^^^ s) (bs.take k) : Nat)), (12, .slice ax bs.length cx), (13, .int .i64 (bs.length : Nat)), (14, .int .i64 (k : Nat))] ∧ On W0 (Own 1 (.slice (some ⟨b3, 0, none⟩) 16 16) 16 (tabL 16) :: L) w) (fun k => bs.length - k) (0) ?_ ?_
  · exact ⟨Nat.zero_le _, _, mkE_of ⟨rfl, rfl, rfl, rfl, rfl, trivial⟩, h⟩
  · rintro k env w ⟨hk, j, rfl, h⟩
    refine W.seq ?_
    refine W.region ?_
    refine WL.val (run_lss rfl rfl) rfl rfl ?_
    refine WL.nil ?_
    refine W.seq ?_
    refine W.condIf rfl (fun c6 => ?_) (fun c6 => ?_)
    · skip
      refine W.skip ?_
      refine W.seq ?_
      refine W.block ?_
      refine W.seq ?_
      have ob_ : ∃ c, bs[k]? = some c := ⟨bs[k]'(by omega), List.getElem?_eq_getElem _⟩
      obtain ⟨c, hc⟩ := ob_
      have hCC := h.readsTo C
      have ob_ := Cells.addr hCC (by omega)
      obtain ⟨ba, oa, haa⟩ := ob_
      subst haa
      have hc8 := c.toNat_lt
      have hv := crcR_lt hs0 (bs.take k)
      have hm1 : (crcR (4294967295 ^^^ s) (bs.take k) ^^^ c.toNat) < 4294967296 := Nat.xor_lt_two_pow (n := 32) hv (by omega)
      have hm2e : ((crcR (4294967295 ^^^ s) (bs.take k) ^^^ c.toNat) / 2 ^ 4 ^^^ s4 ((crcR (4294967295 ^^^ s) (bs.take k) ^^^ c.toNat) % 2 ^ 4)) = s4 (crcR (4294967295 ^^^ s) (bs.take k) ^^^ c.toNat) := s4_step _
      have hm2 : ((crcR (4294967295 ^^^ s) (bs.take k) ^^^ c.toNat) / 2 ^ 4 ^^^ s4 ((crcR (4294967295 ^^^ s) (bs.take k) ^^^ c.toNat) % 2 ^ 4)) < 4294967296 := by rw [hm2e]; exact s4_lt hm1
      have hd1 : (crcR (4294967295 ^^^ s) (bs.take k) ^^^ c.toNat) % 2 ^ 4 < 16 := Nat.mod_lt _ (by decide)
      have hd2 : ((crcR (4294967295 ^^^ s) (bs.take k) ^^^ c.toNat) / 2 ^ 4 ^^^ s4 ((crcR (4294967295 ^^^ s) (bs.take k) ^^^ c.toNat) % 2 ^ 4)) % 2 ^ 4 < 16 := Nat.mod_lt _ (by decide)
      have hstep : crcR (4294967295 ^^^ s) (bs.take (k + 1)) = ((crcR (4294967295 ^^^ s) (bs.take k) ^^^ c.toNat) / 2 ^ 4 ^^^ s4 ((crcR (4294967295 ^^^ s) (bs.take k) ^^^ c.toNat) % 2 ^ 4)) / 2 ^ 4 ^^^ s4 (((crcR (4294967295 ^^^ s) (bs.take k) ^^^ c.toNat) / 2 ^ 4 ^^^ s4 ((crcR (4294967295 ^^^ s) (bs.take k) ^^^ c.toNat) % 2 ^ 4)) % 2 ^ 4) := by
        rw [s4_step, hm2e, take_snoc hc, crcR_snoc]; rfl
      refine W.region ?_
      refine WL.val (run_indexAddr Try.underlying22 Try.sizeOf5 rfl rfl (by omega) (by omega)) rfl rfl ?_
      refine WL.val (run_load1 Try.isAgg5 rfl ((h.readsTo C).elem (i := k) (vs := [.int .u8 (c.toNat : Int)]) (by omega) (bytes_row hc) 0 _ rfl)) rfl rfl ?_
      refine WL.val run_assign rfl rfl ?_
      refine WL.nil ?_
      refine W.seq ?_
      refine W.region ?_
      refine WL.val run_move rfl rfl ?_
      refine WL.val run_move rfl rfl ?_
      refine WL.val (run_convIn Try.underlying5 Try.underlying59 rfl (by show (0 : Int) ≤ _; omega) (Int.ofNat_le.2 (show _ ≤ 4294967295 by omega))) rfl rfl ?_
      refine WL.val (run_xorN (k := .u32) (m := crcR (4294967295 ^^^ s) (bs.take k)) (n := c.toNat) rfl rfl (Int.ofNat_le.2 (show _ ≤ 4294967295 by omega)) (Int.ofNat_le.2 (show _ ≤ 4294967295 by omega)) (Int.ofNat_le.2 (show _ ≤ 4294967295 by omega))) rfl rfl ?_
      refine WL.val run_assign rfl rfl ?_
      refine WL.nil ?_
      refine W.seq ?_
      refine W.region ?_
      refine WL.val run_move rfl rfl ?_
      refine WL.val (run_shrN (m := (crcR (4294967295 ^^^ s) (bs.take k) ^^^ c.toNat)) (j := 4) rfl rfl (by decide)) rfl rfl ?_
      refine WL.val run_move rfl rfl ?_
      refine WL.val (run_andMod 4 (m := (crcR (4294967295 ^^^ s) (bs.take k) ^^^ c.toNat)) (n := 15) rfl rfl (Int.ofNat_le.2 (show _ ≤ 4294967295 by omega)) (by decide) rfl) rfl rfl ?_
      refine WL.val (run_indexAddrArr Try.underlying177 Try.sizeOf59 rfl rfl (by omega) (by show _ < (16 : Int); omega)) rfl rfl ?_
      refine WL.val (run_load1 Try.isAgg59 rfl ((h.cellsO (v := .slice (some ⟨b3, 0, none⟩) 16 16)).elem (i := (crcR (4294967295 ^^^ s) (bs.take k) ^^^ c.toNat) % 2 ^ 4) (vs := [.int .u32 (s4 ((crcR (4294967295 ^^^ s) (bs.take k) ^^^ c.toNat) % 2 ^ 4) : Nat)]) (by omega) (tab_row (by omega)) 0 _ rfl)) rfl rfl ?_
      refine WL.val (run_xorN (k := .u32) (m := (crcR (4294967295 ^^^ s) (bs.take k) ^^^ c.toNat) / 2 ^ 4) (n := s4 ((crcR (4294967295 ^^^ s) (bs.take k) ^^^ c.toNat) % 2 ^ 4)) rfl rfl (Int.ofNat_le.2 (show _ ≤ 4294967295 by omega)) (Int.ofNat_le.2 (show _ ≤ 4294967295 by have := s4_lt (v := (crcR (4294967295 ^^^ s) (bs.take k) ^^^ c.toNat) % 2 ^ 4) (by omega); omega)) (Int.ofNat_le.2 (show _ ≤ 4294967295 by rw [s4_step]; have := s4_lt hm1; omega))) rfl rfl ?_
      refine WL.val run_assign rfl rfl ?_
      refine WL.nil ?_
      refine W.region ?_
      refine WL.val run_move rfl rfl ?_
      refine WL.val (run_shrN (m := ((crcR (4294967295 ^^^ s) (bs.take k) ^^^ c.toNat) / 2 ^ 4 ^^^ s4 ((crcR (4294967295 ^^^ s) (bs.take k) ^^^ c.toNat) % 2 ^ 4))) (j := 4) rfl rfl (by decide)) rfl rfl ?_
      refine WL.val run_move rfl rfl ?_
      refine WL.val (run_andMod 4 (m := ((crcR (4294967295 ^^^ s) (bs.take k) ^^^ c.toNat) / 2 ^ 4 ^^^ s4 ((crcR (4294967295 ^^^ s) (bs.take k) ^^^ c.toNat) % 2 ^ 4))) (n := 15) rfl rfl (Int.ofNat_le.2 (show _ ≤ 4294967295 by omega)) (by decide) rfl) rfl rfl ?_
      refine WL.val (run_indexAddrArr Try.underlying177 Try.sizeOf59 rfl rfl (by omega) (by show _ < (16 : Int); omega)) rfl rfl ?_
      refine WL.val (run_load1 Try.isAgg59 rfl ((h.cellsO (v := .slice (some ⟨b3, 0, none⟩) 16 16)).elem (i := ((crcR (4294967295 ^^^ s) (bs.take k) ^^^ c.toNat) / 2 ^ 4 ^^^ s4 ((crcR (4294967295 ^^^ s) (bs.take k) ^^^ c.toNat) % 2 ^ 4)) % 2 ^ 4) (vs := [.int .u32 (s4 (((crcR (4294967295 ^^^ s) (bs.take k) ^^^ c.toNat) / 2 ^ 4 ^^^ s4 ((crcR (4294967295 ^^^ s) (bs.take k) ^^^ c.toNat) % 2 ^ 4)) % 2 ^ 4) : Nat)]) (by omega) (tab_row (by omega)) 0 _ rfl)) rfl rfl ?_
      refine WL.val (run_xorN (k := .u32) (m := ((crcR (4294967295 ^^^ s) (bs.take k) ^^^ c.toNat) / 2 ^ 4 ^^^ s4 ((crcR (4294967295 ^^^ s) (bs.take k) ^^^ c.toNat) % 2 ^ 4)) / 2 ^ 4) (n := s4 (((crcR (4294967295 ^^^ s) (bs.take k) ^^^ c.toNat) / 2 ^ 4 ^^^ s4 ((crcR (4294967295 ^^^ s) (bs.take k) ^^^ c.toNat) % 2 ^ 4)) % 2 ^ 4)) rfl rfl (Int.ofNat_le.2 (show _ ≤ 4294967295 by omega)) (Int.ofNat_le.2 (show _ ≤ 4294967295 by have := s4_lt (v := ((crcR (4294967295 ^^^ s) (bs.take k) ^^^ c.toNat) / 2 ^ 4 ^^^ s4 ((crcR (4294967295 ^^^ s) (bs.take k) ^^^ c.toNat) % 2 ^ 4)) % 2 ^ 4) (by omega); omega)) (Int.ofNat_le.2 (show _ ≤ 4294967295 by rw [s4_step]; have := s4_lt hm2; omega))) rfl rfl ?_
      refine WL.val run_assign rfl rfl ?_
      refine WL.nil ?_
      refine W.region ?_
      refine WL.val (run_add rfl rfl (by omega) (by omega)) rfl rfl ?_
      refine WL.val run_move rfl rfl ?_
      refine WL.nil ?_
      -- round, path LT
      exact ⟨k + 1, ⟨by omega, _, mkE_of ⟨rfl, (congrArg (fun z : Nat => Value.int .u32 (z : Int)) hstep).symm, rfl, rfl, rfl, trivial⟩, h⟩, by show bs.length - (k + 1) < bs.length - k; omega⟩
    · skip
      refine W.exit ?_
      refine W.seq ?_
      refine W.region ?_
      refine WL.val run_move rfl rfl ?_
      refine WL.val (run_compl32 rfl (crcR_lt hs0 _)) rfl rfl ?_
      refine WL.val run_assign rfl rfl ?_
      refine WL.nil ?_
      refine W.ret ?_
      refine bodyQ.r1 (v := .int .u32 _) Try.results130 rfl ?_
      -- path LF
      have e : bs.take k = bs := List.take_of_length_le (by omega)
      exact ⟨by rw [e], h.tail⟩

theorem more_ok {ax : Option Addr} {cx : Nat} {bs : List UInt8} {s : Nat} (hs : s < 4294967296) (h : On W0 L w) (C : Gives L (Bytes (.slice ax bs.length cx) bs)) : Calls Try.prog 117 #[.int .u32 (s : Int), .slice ax bs.length cx] w (Ret fun v w' => v = .int .u32 ((4294967295 ^^^ crcR (4294967295 ^^^ s) bs : Nat) : Int) ∧ On W0 L w') := by
  refine enter Try.func117 rfl Try.ntmps117 rfl ?_
  refine W.seq ?_
  refine W.region ?_
  refine WL.val run_assign rfl rfl ?_
  refine WL.nil ?_
  refine W.seq ?_
  refine W.region ?_
  refine WL.eff (eff_call Try.call131 (table_ok h)) rfl rfl ?_
  rintro _ w ⟨rfl, h⟩
  refine WL.val run_move rfl rfl ?_
  refine WL.val run_move rfl rfl ?_
  refine WL.eff (eff_call Try.call130 (run_ok hs h C)) rfl rfl ?_
  rintro _ w ⟨rfl, h⟩
  refine WL.val run_assign rfl rfl ?_
  refine WL.nil ?_
  refine W.ret ?_
  refine bodyQ.r1 (v := .int .u32 _) Try.results117 rfl ?_
  -- path 
  exact ⟨rfl, h⟩

theorem sum_ok {ax : Option Addr} {cx : Nat} {bs : List UInt8} (h : On W0 L w) (C : Gives L (Bytes (.slice ax bs.length cx) bs)) : Calls Try.prog 109 #[.slice ax bs.length cx] w (Ret fun v w' => v = .int .u32 (crcS bs : Int) ∧ On W0 L w') := by
  refine enter Try.func109 rfl Try.ntmps109 rfl ?_
  refine W.seq ?_
  refine W.region ?_
  refine WL.val run_assign rfl rfl ?_
  refine WL.nil ?_
  refine W.seq ?_
  refine W.region ?_
  refine WL.val run_move rfl rfl ?_
  refine WL.eff (eff_call Try.call117 (more_ok (s := 0) (by decide) h C)) rfl rfl ?_
  rintro _ w ⟨rfl, h⟩
  refine WL.val run_assign rfl rfl ?_
  refine WL.nil ?_
  refine W.ret ?_
  refine bodyQ.r1 (v := .int .u32 _) Try.results109 rfl ?_
  -- path 
  exact ⟨rfl, h⟩

theorem low_ok {a : Option Addr} {c s : Nat} {bs : List UInt8} (hb : bs.length ≤ 1000000000000) (h : On W0 (Own 1 (.slice a bs.length c) bs.length (bytesV bs) :: L) w) : Calls Try.prog 108 #[.slice a bs.length c, .int .u32 (s : Int)] w (Ret fun v w' => ∃ a c, v = .slice a (bs.length + 4) c ∧ On W0 (Own 1 (.slice a (bs.length + 4) c) (bs.length + 4) (bytesV (bs ++ four s)) :: L) w') := by
  refine enter Try.func108 rfl Try.ntmps108 rfl ?_
  have hmx := maxLen_eq
  refine W.seq ?_
  refine W.region ?_
  refine WL.val run_assign rfl rfl ?_
  refine WL.nil ?_
  refine W.seq ?_
  refine W.region ?_
  refine WL.val run_move rfl rfl ?_
  refine WL.val run_move rfl rfl ?_
  refine WL.val (run_convByte Try.underlying59 Try.underlying5 rfl) rfl rfl ?_
  refine WL.val run_move rfl rfl ?_
  refine WL.val (run_shrN (m := s) (j := 8) rfl rfl (by decide)) rfl rfl ?_
  refine WL.val (run_convByte Try.underlying59 Try.underlying5 rfl) rfl rfl ?_
  refine WL.val run_move rfl rfl ?_
  refine WL.val (run_shrN (m := s) (j := 16) rfl rfl (by decide)) rfl rfl ?_
  refine WL.val (run_convByte Try.underlying59 Try.underlying5 rfl) rfl rfl ?_
  refine WL.val run_move rfl rfl ?_
  refine WL.val (run_shrN (m := s) (j := 24) rfl rfl (by decide)) rfl rfl ?_
  refine WL.val (run_convByte Try.underlying59 Try.underlying5 rfl) rfl rfl ?_
  refine WL.eff (eff_mkRow (out := [.int .u8 _, .int .u8 _, .int .u8 _, .int .u8 _]) h Try.underlying22 Try.sizeOf5 Try.zeroValue5 rfl (by decide) rfl rfl rfl) rfl rfl ?_
  rintro _ w ⟨b17, rfl, h⟩
  refine WL.eff (eff_app (c2 := 4) (bytes := 1) h rfl rfl (h.cellsO (v := .slice (some ⟨b17, 0, none⟩) 4 4)) Try.underlying22 rfl rfl rfl rfl rfl (by omega) (by omega) (fun u hu => bytes_one (bs := four s) u hu)) rfl rfl ?_
  rintro _ w ⟨a18, c18, rfl, h⟩
  have h : On W0 (Own 1 (.slice a18 (bs.length + 4) c18) (bs.length + 4) (bytesV bs ++ bytesV (four s)) :: _) w := h
  rw [show bytesV bs ++ bytesV (four s) = bytesV (bs ++ four s) by simp [bytesV]] at h
  refine WL.val run_assign rfl rfl ?_
  refine WL.nil ?_
  refine W.ret ?_
  refine bodyQ.r1 (v := .slice _ _ _) Try.results108 rfl ?_
  -- path 
  exact ⟨a18, c18, rfl, h.to⟩

theorem seal_ok {ax : Option Addr} {cx : Nat} {bs : List UInt8} (h : On W0 L w) (C : Gives L (Bytes (.slice ax bs.length cx) bs)) (hb : bs.length ≤ 1000000000000) : Calls Try.prog 74 #[.slice ax bs.length cx] w (Ret fun v w' => ∃ a, v = .slice a (sealB bs).length (sealB bs).length ∧ On W0 (OwnB (.slice a (sealB bs).length (sealB bs).length) (sealB bs) :: L) w') := by
  refine enter Try.func74 rfl Try.ntmps74 rfl ?_
  refine W.seq ?_
  refine W.region ?_
  refine WL.val run_assign rfl rfl ?_
  refine WL.nil ?_
  refine W.seq ?_
  refine W.region ?_
  refine WL.val run_move rfl rfl ?_
  refine WL.eff (eff_call Try.call68 (clone_bytes h C (by omega))) rfl rfl ?_
  rintro _ w ⟨a4, c4, rfl, h⟩
  refine WL.val run_move rfl rfl ?_
  refine WL.eff (eff_call Try.call109 (sum_ok h (Gives.to C))) rfl rfl ?_
  rintro _ w ⟨rfl, h⟩
  refine WL.eff (eff_call Try.call108 (low_ok (s := crcS bs) hb h)) rfl rfl ?_
  rintro _ w ⟨a7, c7, hv, h⟩
  have el : bs.length + 4 = (sealB bs).length := by unfold sealB; rw [List.length_append]; rfl
  rw [el] at hv h
  subst hv
  refine WL.eff (eff_call Try.call81 (clip_bytes h)) rfl rfl ?_
  rintro _ w ⟨rfl, h⟩
  refine WL.val run_assign rfl rfl ?_
  refine WL.nil ?_
  refine W.ret ?_
  refine bodyQ.r1 (v := .slice _ _ _) Try.results74 rfl ?_
  -- path 
  exact ⟨a7, rfl, h⟩

theorem equal_ok {ax : Option Addr} {cx : Nat} {bs : List UInt8} {ay : Option Addr} {cy : Nat} {cs : List UInt8} (h : On W0 L w) (C : Gives L (Bytes (.slice ax bs.length cx) bs)) (C2 : Gives L (Bytes (.slice ay cs.length cy) cs)) : Calls Try.prog 111 #[.slice ax bs.length cx, .slice ay cs.length cy] w (Ret fun v w' => v = .bool (decide (bs = cs)) ∧ On W0 L w') := by
  refine enter Try.func111 rfl Try.ntmps111 rfl ?_
  have hmx := maxLen_eq
  have ob_ := Cells.bounds (h.readsTo C)
  obtain ⟨hbc, hbm⟩ := ob_
  have ob_ := Cells.bounds (h.readsTo C2)
  obtain ⟨hbc2, hbm2⟩ := ob_
  refine W.seq ?_
  refine W.region ?_
  refine WL.val run_assign rfl rfl ?_
  refine WL.nil ?_
  refine W.seq ?_
  refine W.seq ?_
  refine W.region ?_
  refine WL.val run_move rfl rfl ?_
  refine WL.val (run_lenSlice Try.underlying22 rfl) rfl rfl ?_
  refine WL.val run_move rfl rfl ?_
  refine WL.val (run_lenSlice Try.underlying22 rfl) rfl rfl ?_
  refine WL.val (run_neq rfl rfl) rfl rfl ?_
  refine WL.nil ?_
  refine W.condIf rfl (fun c2 => ?_) (fun c2 => ?_)
  · skip
    refine W.seq ?_
    refine W.region ?_
    refine WL.val run_assign rfl rfl ?_
    refine WL.nil ?_
    refine W.ret ?_
    refine bodyQ.r1 (v := .bool _) Try.results111 rfl ?_
    -- path T
    exact ⟨by rw [decide_eq_false (fun e => c2 (by rw [e]))], h⟩
  · skip
    refine W.skip ?_
    refine W.seq ?_
    refine W.seq ?_
    have hlen : bs.length = cs.length := by omega
    refine W.region ?_
    refine WL.val run_move rfl rfl ?_
    refine WL.val (run_lenSlice Try.underlying22 rfl) rfl rfl ?_
    refine WL.val run_move rfl rfl ?_
    refine WL.nil ?_
    refine W.block ?_
    refine W.loop (fun (k : Nat) env w => k ≤ bs.length ∧ bs.take k = cs.take k ∧ ∃ j, env = mkE j [(0, .slice ax bs.length cx), (1, .slice ay cs.length cy), (12, .int .i64 (bs.length : Nat)), (13, .int .i64 (k : Nat))] ∧ On W0 L w) (fun k => bs.length - k) (0) ?_ ?_
    · exact ⟨Nat.zero_le _, rfl, _, mkE_of ⟨rfl, rfl, rfl, rfl, trivial⟩, h⟩
    · rintro k env w ⟨hk, hpre, j, rfl, h⟩
      refine W.seq ?_
      refine W.region ?_
      refine WL.val (run_lss rfl rfl) rfl rfl ?_
      refine WL.nil ?_
      refine W.seq ?_
      refine W.condIf rfl (fun c10 => ?_) (fun c10 => ?_)
      · skip
        refine W.skip ?_
        refine W.seq ?_
        refine W.block ?_
        refine W.seq ?_
        have ob_ : ∃ x, bs[k]? = some x := ⟨bs[k]'(by omega), List.getElem?_eq_getElem _⟩
        obtain ⟨x, hx⟩ := ob_
        have ob_ : ∃ y, cs[k]? = some y := ⟨cs[k]'(by omega), List.getElem?_eq_getElem _⟩
        obtain ⟨y, hy⟩ := ob_
        have hCC := h.readsTo C
        have ob_ := Cells.addr hCC (by omega)
        obtain ⟨ba, oa, haa⟩ := ob_
        subst haa
        have hCD := h.readsTo C2
        have ob_ := Cells.addr hCD (by omega)
        obtain ⟨bb, ob, hbb⟩ := ob_
        subst hbb
        refine W.region ?_
        refine WL.val run_move rfl rfl ?_
        refine WL.val run_assign rfl rfl ?_
        refine WL.nil ?_
        refine W.seq ?_
        refine W.draw Try.follows h (fun w h => ?_)
        refine WT.pure 0 rfl (by kernel_rfl) (fun w' => run_move) rfl rfl ?_
        refine WT.pure 1 rfl (by kernel_rfl) (fun w' => run_move) rfl rfl ?_
        refine WT.pure 2 rfl (by kernel_rfl) (fun w' => (run_indexAddr Try.underlying22 Try.sizeOf5 rfl rfl (by omega) (by omega))) rfl rfl ?_
        refine WT.load1 3 rfl (by kernel_rfl) Try.isAgg5 rfl ((h.readsTo C).elem (i := k) (vs := [.int .u8 (x.toNat : Int)]) (by omega) (bytes_row hx) 0 _ rfl) rfl rfl ?_
        refine WT.pure 4 rfl (by kernel_rfl) (fun w' => run_move) rfl rfl ?_
        refine WT.pure 5 rfl (by kernel_rfl) (fun w' => run_move) rfl rfl ?_
        refine WT.pure 6 rfl (by kernel_rfl) (fun w' => (run_indexAddr Try.underlying22 Try.sizeOf5 rfl rfl (by omega) (by omega))) rfl rfl ?_
        refine WT.load1 7 rfl (by kernel_rfl) Try.isAgg5 rfl ((h.readsTo C2).elem (i := k) (vs := [.int .u8 (y.toNat : Int)]) (by omega) (bytes_row hy) 0 _ rfl) rfl rfl ?_
        refine WT.pure 8 rfl (by kernel_rfl) (fun w' => (run_neq rfl rfl)) rfl rfl ?_
        refine WT.done (by kernel_rfl) ?_
        refine W.condIf rfl (fun c16 => ?_) (fun c16 => ?_)
        · skip
          refine W.seq ?_
          refine W.region ?_
          refine WL.val run_assign rfl rfl ?_
          refine WL.nil ?_
          refine W.ret ?_
          refine bodyQ.r1 (v := .bool _) Try.results111 rfl ?_
          -- path FLTT
          first
            | exact ⟨by rw [decide_eq_false (fun e => c16 (by rw [e] at hx; rw [hx] at hy; cases hy; rfl))], h⟩
            | (have e : bs = cs := by
                 rw [List.take_of_length_le (show bs.length ≤ k by omega), List.take_of_length_le (show cs.length ≤ k by omega)] at hpre
                 exact hpre
               exact ⟨by rw [decide_eq_true e], h⟩)
        · skip
          refine W.skip ?_
          refine W.region ?_
          refine WL.val (run_add rfl rfl (by omega) (by omega)) rfl rfl ?_
          refine WL.val run_move rfl rfl ?_
          refine WL.nil ?_
          -- round, path FLTF
          have hxy : x = y := UInt8.toNat_inj.1 (by have := Decidable.not_not.1 c16; omega)
          exact ⟨k + 1, ⟨by omega, by rw [take_snoc hx, take_snoc hy, hpre, hxy], _, mkE_of ⟨rfl, rfl, rfl, rfl, trivial⟩, h⟩, by show bs.length - (k + 1) < bs.length - k; omega⟩
      · skip
        refine W.exit ?_
        refine W.seq ?_
        refine W.region ?_
        refine WL.val run_assign rfl rfl ?_
        refine WL.nil ?_
        refine W.ret ?_
        refine bodyQ.r1 (v := .bool _) Try.results111 rfl ?_
        -- path FLF
        first
          | exact ⟨by rw [decide_eq_false (fun e => c16 (by rw [e] at hx; rw [hx] at hy; cases hy; rfl))], h⟩
          | (have e : bs = cs := by
               rw [List.take_of_length_le (show bs.length ≤ k by omega), List.take_of_length_le (show cs.length ≤ k by omega)] at hpre
               exact hpre
             exact ⟨by rw [decide_eq_true e], h⟩)

theorem bequal_ok {ax : Option Addr} {cx : Nat} {bs : List UInt8} {ay : Option Addr} {cy : Nat} {cs : List UInt8} (h : On W0 L w) (C : Gives L (Bytes (.slice ax bs.length cx) bs)) (C2 : Gives L (Bytes (.slice ay cs.length cy) cs)) : Calls Try.prog 82 #[.slice ax bs.length cx, .slice ay cs.length cy] w (Ret fun v w' => v = .bool (decide (bs = cs)) ∧ On W0 L w') := by
  refine enter Try.func82 rfl Try.ntmps82 rfl ?_
  refine W.seq ?_
  refine W.region ?_
  refine WL.val run_assign rfl rfl ?_
  refine WL.nil ?_
  refine W.seq ?_
  refine W.region ?_
  refine WL.val run_move rfl rfl ?_
  refine WL.val (run_bytesStr Try.underlying22 Try.underlying5 Try.underlying9 rfl (h.readsTo C)) rfl rfl ?_
  refine WL.val run_move rfl rfl ?_
  refine WL.val (run_bytesStr Try.underlying22 Try.underlying5 Try.underlying9 rfl (h.readsTo C2)) rfl rfl ?_
  refine WL.val (run_eqlStr rfl rfl) rfl rfl ?_
  refine WL.val run_assign rfl rfl ?_
  refine WL.nil ?_
  refine W.ret ?_
  refine bodyQ.r1 (v := .bool _) Try.results82 rfl ?_
  -- path 
  exact ⟨congrArg Value.bool (decide_eq_decide.2 (by simp only [Go.ByteArray.toList_eq])), h⟩

theorem open_ok {ax : Option Addr} {cx : Nat} {bs : List UInt8} (h : On W0 L w) (C : Gives L (Bytes (.slice ax bs.length cx) bs)) (hb : bs.length ≤ 1000000000000) : Calls Try.prog 79 #[.slice ax bs.length cx] w (Ret fun v w' => ((openB bs).2 = 0 ∧ 4 ≤ bs.length ∧ ∃ a, v = .tuple #[.slice a (bs.take (bs.length - 4)).length (bs.take (bs.length - 4)).length, .int .i64 0] ∧ On W0 (OwnB (.slice a (bs.take (bs.length - 4)).length (bs.take (bs.length - 4)).length) (bs.take (bs.length - 4)) :: L) w') ∨ ((openB bs).2 ≠ 0 ∧ v = .tuple #[.slice none 0 0, .int .i64 (openB bs).2] ∧ On W0 L w')) := by
  refine enter Try.func79 rfl Try.ntmps79 rfl ?_
  have hmx := maxLen_eq
  have ob_ := Cells.bounds (h.readsTo C)
  obtain ⟨hbc, hbm⟩ := ob_
  refine W.seq ?_
  refine W.region ?_
  refine WL.val run_assign rfl rfl ?_
  refine WL.val run_assign rfl rfl ?_
  refine WL.nil ?_
  refine W.seq ?_
  refine W.seq ?_
  refine W.region ?_
  refine WL.val run_move rfl rfl ?_
  refine WL.val (run_lenSlice Try.underlying22 rfl) rfl rfl ?_
  refine WL.val (run_lss rfl rfl) rfl rfl ?_
  refine WL.nil ?_
  refine W.condIf rfl (fun c2 => ?_) (fun c2 => ?_)
  · skip
    refine W.seq ?_
    refine W.region ?_
    refine WL.val run_assign rfl rfl ?_
    refine WL.val run_assign rfl rfl ?_
    refine WL.nil ?_
    refine W.ret ?_
    refine bodyQ.r2 (v1 := .slice _ _ _) (v2 := .int .i64 _) Try.results79 rfl rfl ?_
    -- path T
    have e : openB bs = ([], 3) := by unfold openB; rw [if_pos (by omega)]
    exact .inr ⟨by rw [e]; decide, by rw [e], h⟩
  · skip
    refine W.skip ?_
    refine W.seq ?_
    have ob_ : ∃ B, B = bs.take (bs.length - 4) := ⟨_, rfl⟩
    obtain ⟨B, hBe⟩ := ob_
    have ob_ : ∃ T, T = bs.drop (bs.length - 4) := ⟨_, rfl⟩
    obtain ⟨T, hTe⟩ := ob_
    have hBl : B.length = bs.length - 4 := by rw [hBe, List.length_take]; omega
    have hTl : T.length = 4 := by rw [hTe, List.length_drop]; omega
    have gB : Gives L (Bytes (.slice ax B.length cx) B) := by rw [hBe]; exact front_bytes C (by omega)
    have hct := cut_bytes (l := B.length) (h := bs.length) C hbc (by omega) (Nat.le_refl _)
    have e4 : (bs.drop B.length).take (bs.length - B.length) = T := by rw [hTe, hBl]; exact List.take_of_length_le (by rw [List.length_drop]; omega)
    rw [e4] at hct
    obtain ⟨a', c', hcut, gT⟩ := hct
    have hop : openB bs = if four (crcS B) ≠ T then ([], 4) else (B, 0) := by unfold openB; rw [if_neg (by omega), ← hBe, ← hTe]
    refine W.region ?_
    refine WL.val run_move rfl rfl ?_
    refine WL.val run_move rfl rfl ?_
    refine WL.val (run_lenSlice Try.underlying22 rfl) rfl rfl ?_
    refine WL.val (run_subNV (m := bs.length) (n := 4) (r := B.length) rfl rfl (by omega) (by omega) hBl.symm) rfl rfl ?_
    refine WL.val (run_cutH Try.underlying22 Try.sizeOf5 rfl rfl  (by omega)) rfl rfl ?_
    refine WL.val run_assign rfl rfl ?_
    refine WL.nil ?_
    refine W.seq ?_
    refine W.seq ?_
    refine W.draw Try.follows h (fun w h => ?_)
    refine WT.pure 0 rfl (by kernel_rfl) (fun w' => run_move) rfl rfl ?_
    refine WT.pure 3 rfl (by kernel_rfl) (fun w' => run_move) rfl rfl ?_
    refine WT.pure 4 rfl (by kernel_rfl) (fun w' => run_move) rfl rfl ?_
    refine WT.pure 5 rfl (by kernel_rfl) (fun w' => (run_lenSlice Try.underlying22 rfl)) rfl rfl ?_
    refine WT.pure 6 rfl (by kernel_rfl) (fun w' => (run_cutLV (n := bs.length) (l := B.length) Try.underlying22 Try.sizeOf5 rfl rfl (by omega) hcut)) rfl rfl ?_
    refine WT.eff 1 [] rfl (by kernel_rfl) (by kernel_rfl) (eff_call Try.call109 (sum_ok (bs := B) h gB)) rfl rfl ?_
    rintro _ w ⟨rfl, h⟩
    refine ⟨trivial, ?_⟩
    refine WT.eff 2 [] rfl (by kernel_rfl) (by kernel_rfl) (eff_call Try.call108 (low_ok (s := crcS B) (a := none) (c := 0) (bs := []) (by decide) (h.ownEmpty 1 none))) rfl rfl ?_
    rintro _ w ⟨a15, c15, rfl, h⟩
    have h : On W0 (Own 1 (.slice a15 (four (crcS B)).length c15) (four (crcS B)).length (bytesV (four (crcS B))) :: L) w := h
    refine ⟨trivial, ?_⟩
    refine WT.eff 7 [] rfl (by kernel_rfl) (by kernel_rfl) (eff_call Try.call111 (equal_ok (bs := four (crcS B)) (cs := T) h (Gives.ownO (v := .slice a15 (four (crcS B)).length c15)) (Gives.to gT))) rfl rfl ?_
    rintro _ w ⟨rfl, h⟩
    refine ⟨trivial, ?_⟩
    refine WT.pure 8 rfl (by kernel_rfl) (fun w' => (run_notDec rfl)) rfl rfl ?_
    refine WT.done (by kernel_rfl) ?_
    refine W.condIf rfl (fun c8 => ?_) (fun c8 => ?_)
    · skip
      refine W.seq ?_
      refine W.region ?_
      refine WL.val run_assign rfl rfl ?_
      refine WL.val run_assign rfl rfl ?_
      refine WL.nil ?_
      refine W.ret ?_
      refine bodyQ.r2 (v1 := .slice _ _ _) (v2 := .int .i64 _) Try.results79 rfl rfl ?_
      -- path FT
      rw [if_pos c8] at hop
      exact .inr ⟨by rw [hop]; decide, by rw [hop], h.to⟩
    · skip
      refine W.skip ?_
      refine W.seq ?_
      refine W.region ?_
      refine WL.val run_move rfl rfl ?_
      refine WL.eff (eff_call Try.call68 (clone_bytes h (Gives.to gB) (by omega))) rfl rfl ?_
      rintro _ w ⟨a23, c23, rfl, h⟩
      refine WL.eff (eff_call Try.call81 (clip_bytes h)) rfl rfl ?_
      rintro _ w ⟨rfl, h⟩
      refine WL.val run_assign rfl rfl ?_
      refine WL.val run_assign rfl rfl ?_
      refine WL.nil ?_
      refine W.ret ?_
      refine bodyQ.r2 (v1 := .slice _ _ _) (v2 := .int .i64 _) Try.results79 rfl rfl ?_
      -- path FF
      rw [if_neg c8] at hop
      refine .inl ⟨by rw [hop], by omega, a23, ?_, ?_⟩
      · rw [← hBe]
      · rw [← hBe]; exact h.to

end Go.Proofs.Ytlahgihjjabgmaa
