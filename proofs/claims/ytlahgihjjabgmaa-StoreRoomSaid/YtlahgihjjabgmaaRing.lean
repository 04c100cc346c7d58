/-
  Sectors of a journal: the contracts. Lines of walks printed by a program of the prover's.
-/
import Derived.Test.YtlahgihjjabgmaaBin2
import Derived.Test.YtlahgihjjabgmaaDisk4
import Derived.Test.YtlahgihjjabgmaaRingQ
namespace Go.Proofs.Ytlahgihjjabgmaa
open Go Go.Sl Go.Sl.ByM Go.Sl.DkM Go.Sl.TwM Go.Sl.RgM
set_option linter.unusedVariables false
set_option linter.unusedSimpArgs false
set_option maxHeartbeats 1000000
set_option maxRecDepth 8000
variable {W0 w : World} {L F : List HProp}

theorem need_ok {n : Nat} (hn : n ≤ 1000000000000) (h : On W0 L w) : Calls Try.prog 40 #[.int .i64 (n : Int)] w (Ret fun v w' => v = .int .i64 (needR n : Int) ∧ On W0 L w') := by
  refine enter Try.func40 rfl Try.ntmps40 rfl ?_
  refine W.seq ?_
  refine W.region ?_
  refine WL.val run_assign rfl rfl ?_
  refine WL.nil ?_
  refine W.seq ?_
  refine W.region ?_
  refine WL.val run_move rfl rfl ?_
  refine WL.val (run_maxN (m := n) (n := 0) (r := n) rfl rfl (by omega)) rfl rfl ?_
  refine WL.val (run_quoN (m := n) (n := 480) rfl rfl (by omega) (by decide)) rfl rfl ?_
  refine WL.val run_assign rfl rfl ?_
  refine WL.nil ?_
  refine W.seq ?_
  refine W.seq ?_
  refine W.region ?_
  refine WL.val run_move rfl rfl ?_
  refine WL.val run_move rfl rfl ?_
  refine WL.val (run_mulN (m := n / 480) (n := 480) rfl rfl (by omega)) rfl rfl ?_
  refine WL.val (run_gtr rfl rfl) rfl rfl ?_
  refine WL.nil ?_
  refine W.condIf rfl (fun c3 => ?_) (fun c3 => ?_)
  · skip
    refine W.region ?_
    refine WL.val run_move rfl rfl ?_
    refine WL.val (run_addN (m := n / 480) (n := 1) rfl rfl (by omega)) rfl rfl ?_
    refine WL.val run_assign rfl rfl ?_
    refine WL.nil ?_
    refine W.seq ?_
    refine W.region ?_
    refine WL.val run_move rfl rfl ?_
    refine WL.val (run_maxN (m := n / 480 + 1) (n := 1) (r := needR n) rfl rfl (by unfold needR; split <;> omega)) rfl rfl ?_
    refine WL.val run_assign rfl rfl ?_
    refine WL.nil ?_
    refine W.ret ?_
    refine bodyQ.r1 (v := .int .i64 _) Try.results40 rfl ?_
    -- path T
    exact ⟨rfl, h⟩
  · skip
    refine W.skip ?_
    refine W.seq ?_
    refine W.region ?_
    refine WL.val run_move rfl rfl ?_
    refine WL.val (run_maxN (m := n / 480) (n := 1) (r := needR n) rfl rfl (by unfold needR; split <;> omega)) rfl rfl ?_
    refine WL.val run_assign rfl rfl ?_
    refine WL.nil ?_
    refine W.ret ?_
    refine bodyQ.r1 (v := .int .i64 _) Try.results40 rfl ?_
    -- path F
    exact ⟨rfl, h⟩

theorem rneed_ok {n : Nat} (hn : n ≤ 1000000000000) (h : On W0 L w) : Calls Try.prog 39 #[.int .i64 (n : Int)] w (Ret fun v w' => v = .int .i64 (needR n : Int) ∧ On W0 L w') := by
  refine enter Try.func39 rfl Try.ntmps39 rfl ?_
  refine W.seq ?_
  refine W.region ?_
  refine WL.val run_assign rfl rfl ?_
  refine WL.nil ?_
  refine W.seq ?_
  refine W.seq ?_
  refine W.region ?_
  refine WL.val run_move rfl rfl ?_
  refine WL.val (run_lss rfl rfl) rfl rfl ?_
  refine WL.nil ?_
  refine W.condIf rfl (fun c2 => ?_) (fun c2 => ?_)
  · skip
    refine W.seq ?_
    refine W.region ?_
    refine WL.val run_assign rfl rfl ?_
    refine WL.nil ?_
    refine W.ret ?_
    refine bodyQ.r1 (v := .int .i64 _) Try.results39 rfl ?_
    -- path T
    have e : needR n = 1 := by unfold needR; split <;> omega
    rw [e]
    exact ⟨rfl, h⟩
  · skip
    refine W.skip ?_
    refine W.seq ?_
    refine W.region ?_
    refine WL.val run_move rfl rfl ?_
    refine WL.val (run_quoN (m := n) (n := 480) rfl rfl (by omega) (by decide)) rfl rfl ?_
    refine WL.val run_assign rfl rfl ?_
    refine WL.nil ?_
    refine W.seq ?_
    refine W.seq ?_
    refine W.region ?_
    refine WL.val run_move rfl rfl ?_
    refine WL.val (run_remN (m := n) (n := 480) rfl rfl (by decide)) rfl rfl ?_
    refine WL.val (run_gtr rfl rfl) rfl rfl ?_
    refine WL.nil ?_
    refine W.condIf rfl (fun c8 => ?_) (fun c8 => ?_)
    · skip
      refine W.region ?_
      refine WL.val run_move rfl rfl ?_
      refine WL.val (run_addN (m := n / 480) (n := 1) rfl rfl (by omega)) rfl rfl ?_
      refine WL.val run_assign rfl rfl ?_
      refine WL.nil ?_
      refine W.seq ?_
      refine W.region ?_
      refine WL.val run_move rfl rfl ?_
      refine WL.val run_assign rfl rfl ?_
      refine WL.nil ?_
      refine W.ret ?_
      refine bodyQ.r1 (v := .int .i64 _) Try.results39 rfl ?_
      -- path FT
      have e : needR n = n / 480 + 1 := by unfold needR; split <;> omega
      rw [e]
      exact ⟨rfl, h⟩
    · skip
      refine W.skip ?_
      refine W.seq ?_
      refine W.region ?_
      refine WL.val run_move rfl rfl ?_
      refine WL.val run_assign rfl rfl ?_
      refine WL.nil ?_
      refine W.ret ?_
      refine bodyQ.r1 (v := .int .i64 _) Try.results39 rfl ?_
      -- path FF
      have e : needR n = n / 480 := by unfold needR; split <;> omega
      rw [e]
      exact ⟨rfl, h⟩

theorem rpk_ok {ax : Option Addr} {cx : Nat} {bb : List UInt8} {number life part parts : Nat} (hn : number < 18446744073709551616) (hl : life < 4294967296) (hp : part < 65536) (hps : parts < 65536) (h : On W0 L w) (C : Gives L (Bytes (.slice ax bb.length cx) bb)) : Calls Try.prog 91 #[.int .u64 (number : Int), .int .u32 (life : Int), .int .i64 (part : Int), .int .i64 (parts : Int), .slice ax bb.length cx] w (Ret fun v w' => (part < parts ∧ bb.length ≤ 480 ∧ (packR number life part parts bb) = ((secR number life part parts bb), 0) ∧ ∃ a, v = .tuple #[.slice a (secR number life part parts bb).length (secR number life part parts bb).length, .int .i64 0] ∧ On W0 (OwnB (.slice a (secR number life part parts bb).length (secR number life part parts bb).length) (secR number life part parts bb) :: L) w') ∨ ((packR number life part parts bb).1 = [] ∧ (packR number life part parts bb).2 ≠ 0 ∧ v = .tuple #[.slice none 0 0, .int .i64 (packR number life part parts bb).2] ∧ On W0 L w')) := by
  refine enter Try.func91 rfl Try.ntmps91 rfl ?_
  have hmx := maxLen_eq
  refine W.seq ?_
  refine W.region ?_
  refine WL.val run_assign rfl rfl ?_
  refine WL.val run_assign rfl rfl ?_
  refine WL.nil ?_
  refine W.seq ?_
  refine W.block ?_
  refine W.seq ?_
  refine W.region ?_
  refine WL.val run_move rfl rfl ?_
  refine WL.val (run_lssF rfl rfl (by omega)) rfl rfl ?_
  refine WL.val run_move rfl rfl ?_
  refine WL.val run_move rfl rfl ?_
  refine WL.val run_move rfl rfl ?_
  refine WL.dec (run_geq rfl rfl) rfl rfl (fun c21 => ?_) (fun c21 => ?_)
  · skip
    refine WL.val (run_pickF rfl) rfl rfl ?_
    refine WL.val run_move rfl rfl ?_
    refine WL.skip rfl rfl ?_
    refine WL.skip rfl rfl ?_
    refine WL.val (run_pickT rfl) rfl rfl ?_
    refine WL.val run_assign rfl rfl ?_
    refine WL.nil ?_
    refine W.condT rfl ?_
    refine W.seq ?_
    refine W.region ?_
    refine WL.val run_assign rfl rfl ?_
    refine WL.val run_assign rfl rfl ?_
    refine WL.nil ?_
    refine W.ret ?_
    refine bodyQ.r2 (v1 := .slice _ _ _) (v2 := .int .i64 _) Try.results91 rfl rfl ?_
    -- path T
    have e := packR_no (number := number) (life := life) (b := bb) (show ¬ part < parts by omega)
    exact .inr ⟨by rw [e], by rw [e]; show (1 : Int) ≠ 0; decide, by rw [e], h⟩
  · skip
    refine WL.val (run_pickF rfl) rfl rfl ?_
    refine WL.val run_move rfl rfl ?_
    refine WL.val run_move rfl rfl ?_
    refine WL.val (run_gtrF rfl rfl (by omega)) rfl rfl ?_
    refine WL.val (run_pickF rfl) rfl rfl ?_
    refine WL.val run_assign rfl rfl ?_
    refine WL.nil ?_
    refine W.condF rfl ?_
    refine W.seq ?_
    refine W.region ?_
    refine WL.val run_move rfl rfl ?_
    refine WL.val (run_lenSlice Try.underlying22 rfl) rfl rfl ?_
    refine WL.val (run_gtr rfl rfl) rfl rfl ?_
    refine WL.val run_assign rfl rfl ?_
    refine WL.nil ?_
    refine W.condIf rfl (fun c7 => ?_) (fun c7 => ?_)
    · skip
      refine W.seq ?_
      refine W.region ?_
      refine WL.val run_assign rfl rfl ?_
      refine WL.val run_assign rfl rfl ?_
      refine WL.nil ?_
      refine W.ret ?_
      refine bodyQ.r2 (v1 := .slice _ _ _) (v2 := .int .i64 _) Try.results91 rfl rfl ?_
      -- path FT
      have e := packR_long (number := number) (life := life) (b := bb) (show part < parts by omega) (by omega) (by omega)
      exact .inr ⟨by rw [e], by rw [e]; show (5 : Int) ≠ 0; decide, by rw [e], h⟩
    · skip
      refine W.skip ?_
      refine W.seq ?_
      refine W.region ?_
      refine WL.eff (eff_mkRow (out := [.int .u8 _, .int .u8 _, .int .u8 _, .int .u8 _]) h Try.underlying22 Try.sizeOf5 Try.zeroValue5 rfl (by decide) rfl rfl rfl) rfl rfl ?_
      rintro _ w ⟨b31, rfl, h⟩
      refine WL.eff (eff_ofString h rfl (by omega) Try.underlying22 Try.underlying5) rfl rfl ?_
      rintro _ w ⟨rfl, h⟩
      refine WL.val run_move rfl rfl ?_
      refine WL.eff (eff_call Try.call73 (bput_ok (v := number) (n := 8) (bs := markR) h (Gives.ownO (v := .slice (some ⟨b31, 0, none⟩) 4 4)) (by decide) (by decide) hn (by decide))) rfl rfl ?_
      rintro _ w ⟨a34, rfl, h⟩
      have l34 : (markR ++ be number 8).length = 12 := by rw [List.length_append, be_length]; rfl
      refine WL.val run_move rfl rfl ?_
      refine WL.val (run_convIn Try.underlying59 Try.underlying40 rfl (by show (0 : Int) ≤ _; omega) (by show _ ≤ (18446744073709551615 : Int); omega)) rfl rfl ?_
      refine WL.eff (eff_call Try.call73 (bput_ok (v := life) (n := 4) (bs := (markR ++ be number 8)) h (Gives.ownO (v := .slice a34 (markR ++ be number 8).length (markR ++ be number 8).length)) (by decide) (by decide) (by omega) (by omega))) rfl rfl ?_
      rintro _ w ⟨a37, rfl, h⟩
      refine WL.val run_assign rfl rfl ?_
      refine WL.nil ?_
      refine W.seq ?_
      refine W.seq ?_
      refine W.region ?_
      refine WL.val run_move rfl rfl ?_
      refine WL.val run_move rfl rfl ?_
      refine WL.val run_move rfl rfl ?_
      refine WL.val (run_lenSlice Try.underlying22 rfl) rfl rfl ?_
      refine WL.eff (eff_mkSlice (zl := [.int .i64 0, .int .i64 0, .int .i64 0]) (out := [.int .i64 _, .int .i64 _, .int .i64 _]) h Try.underlying24 Try.sizeOf3 Try.zeroValue3 (by decide) (by kernel_rfl) rfl rfl (by simp) (⟨⟨_, _, rfl, rfl, by decide⟩, ⟨⟨_, _, rfl, rfl, by decide⟩, ⟨⟨_, _, rfl, rfl, by decide⟩, trivial⟩⟩⟩) rfl rfl (by simp [maxLen])) rfl rfl ?_
      rintro _ w ⟨b42, rfl, h⟩
      refine WL.val (run_lenSlice Try.underlying24 rfl) rfl rfl ?_
      refine WL.val run_move rfl rfl ?_
      refine WL.nil ?_
      refine W.block ?_
      refine W.loop (fun (i : Nat) env w => i ≤ 3 ∧ ∃ (j : Env) (ao : Option Addr), env = mkE j [(4, .slice ax bb.length cx), (12, .slice ao (outR number life ([part, parts, bb.length].take i)).length (outR number life ([part, parts, bb.length].take i)).length), (42, .slice (some ⟨b42, 0, none⟩) 3 3), (43, .int .i64 3), (44, .int .i64 (i : Nat))] ∧ On W0 (OwnB (.slice ao (outR number life ([part, parts, bb.length].take i)).length (outR number life ([part, parts, bb.length].take i)).length) (outR number life ([part, parts, bb.length].take i)) :: Own 1 (.slice (some ⟨b42, 0, none⟩) 3 3) 3 ([part, parts, bb.length].map fun (q : Nat) => Value.int .i64 (q : Int)) :: L) w) (fun i => 3 - i) (0) ?_ ?_
      · have h : On W0 (Own 1 (.slice (some ⟨b42, 0, none⟩) 3 3) 3 ([part, parts, bb.length].map fun (q : Nat) => Value.int .i64 (q : Int)) :: _) w := h
        have e0 : outR number life ([part, parts, bb.length].take 0) = markR ++ be number 8 ++ be life 4 := by unfold outR hdR; simp
        refine ⟨Nat.zero_le _, _, a37, mkE_of ⟨rfl, (by rw [e0]; rfl), rfl, rfl, rfl, trivial⟩, ?_⟩
        rw [e0]
        exact h.to
      · rintro i env w ⟨hi, j, ao, rfl, h⟩
        have hol := outR_length number life ([part, parts, bb.length].take i)
        have htl : ([part, parts, bb.length].take i).length ≤ 3 := by rw [List.length_take]; exact Nat.min_le_right ..
        refine W.seq ?_
        refine W.region ?_
        refine WL.val (run_lss rfl rfl) rfl rfl ?_
        refine WL.nil ?_
        refine W.seq ?_
        refine W.condIf rfl (fun c16 => ?_) (fun c16 => ?_)
        · skip
          refine W.skip ?_
          refine W.seq ?_
          refine W.block ?_
          refine W.seq ?_
          have hi3 : i < 3 := by omega
          have ob_ : ∃ x, [part, parts, bb.length][i]? = some x := ⟨[part, parts, bb.length][i]'hi3, List.getElem?_eq_getElem _⟩
          obtain ⟨x, hx⟩ := ob_
          have hxb : x < 65536 := by
            have hm := List.mem_of_getElem? hx
            simp only [List.mem_cons, List.not_mem_nil, or_false] at hm
            omega
          refine W.region ?_
          refine WL.val (run_indexAddr Try.underlying24 Try.sizeOf3 rfl rfl (by omega) (by omega)) rfl rfl ?_
          refine WL.val (run_load1 Try.isAgg3 rfl ((h.cellsO (v := .slice (some ⟨b42, 0, none⟩) 3 3)).elem (i := i) (vs := [.int .i64 (x : Int)]) (by omega) (nats_row hx) 0 _ rfl)) rfl rfl ?_
          refine WL.val run_assign rfl rfl ?_
          refine WL.nil ?_
          refine W.region ?_
          refine WL.val run_move rfl rfl ?_
          refine WL.val run_move rfl rfl ?_
          refine WL.val (run_convIn Try.underlying3 Try.underlying40 rfl (by show (0 : Int) ≤ _; omega) (by show _ ≤ (18446744073709551615 : Int); omega)) rfl rfl ?_
          refine WL.eff (eff_call Try.call73 (bput_ok (v := x) (n := 2) (bs := (outR number life ([part, parts, bb.length].take i))) h (Gives.ownO (v := .slice ao (outR number life ([part, parts, bb.length].take i)).length (outR number life ([part, parts, bb.length].take i)).length)) (by decide) (by decide) (by omega) (by omega))) rfl rfl ?_
          rintro _ w ⟨a51, rfl, h⟩
          refine WL.val run_assign rfl rfl ?_
          refine WL.nil ?_
          refine W.region ?_
          refine WL.val (run_add rfl rfl (by omega) (by omega)) rfl rfl ?_
          refine WL.val run_move rfl rfl ?_
          refine WL.nil ?_
          -- round, path FFLT
          have e1 := outR_step (number := number) (life := life) hx
          refine ⟨i + 1, ⟨by omega, _, a51, mkE_of ⟨rfl, (by rw [e1]; rfl), rfl, rfl, rfl, trivial⟩, ?_⟩, by show 3 - (i + 1) < 3 - i; omega⟩
          rw [e1]
          exact h.to
        · skip
          refine W.exit ?_
          refine W.seq ?_
          have ob_ : i = 3 := by omega
          obtain rfl := ob_
          have hbl : bb.length ≤ 480 := by omega
          have hol3 : (outR number life ([part, parts, bb.length].take 3)).length = 22 := outR_length number life [part, parts, bb.length]
          refine W.region ?_
          refine WL.val run_move rfl rfl ?_
          refine WL.val run_move rfl rfl ?_
          refine WL.eff (eff_app (bytes := 1) h rfl rfl (h.readsTo C) Try.underlying22 rfl rfl rfl rfl rfl (by omega) (by omega) bytes_one) rfl rfl ?_
          rintro _ w ⟨a55, c55, hv, h⟩
          have e55 : (outR number life ([part, parts, bb.length].take 3)).length + bb.length = (bodyR number life part parts bb).length := by rw [bodyR_length, hol3]
          rw [e55] at hv h
          subst hv
          have e2 : bytesV (outR number life ([part, parts, bb.length].take 3)) ++ bytesV bb = bytesV (bodyR number life part parts bb) := by rw [← outR_body]; unfold bytesV; rw [← List.map_append]; rfl
          rw [e2] at h
          have lb := bodyR_length number life part parts bb
          refine WL.eff (eff_call Try.call75 (pad_ok (to := 508) (bs := bodyR number life part parts bb) h (Gives.ownO (v := .slice a55 (bodyR number life part parts bb).length c55)) (by omega) (by omega) (by decide))) rfl rfl ?_
          rintro _ w ⟨a56, rfl, h⟩
          have lp : (padB (bodyR number life part parts bb) 508).length = 508 := padB_length (by omega)
          refine WL.eff (eff_call Try.call74 (seal_ok (bs := padB (bodyR number life part parts bb) 508) h (Gives.ownO (v := .slice a56 (padB (bodyR number life part parts bb) 508).length (padB (bodyR number life part parts bb) 508).length)) (by rw [lp]; decide))) rfl rfl ?_
          rintro _ w ⟨a57, rfl, h⟩
          refine WL.val run_assign rfl rfl ?_
          refine WL.val run_assign rfl rfl ?_
          refine WL.nil ?_
          refine W.ret ?_
          refine bodyQ.r2 (v1 := .slice _ _ _) (v2 := .int .i64 _) Try.results91 rfl rfl ?_
          -- path FFLF
          have h3 : On W0 (OwnB (.slice a57 (secR number life part parts bb).length (secR number life part parts bb).length) (secR number life part parts bb) :: _) w := h
          have h2 : On W0 (OwnB (.slice a57 (secR number life part parts bb).length (secR number life part parts bb).length) (secR number life part parts bb) :: L) w := h3.to
          exact .inl ⟨by omega, hbl, packR_ok (by omega) (by omega) hbl, a57, rfl, h2⟩

theorem rnget_ok {a : Option Addr} {b8 at_ n : Nat} {B : List UInt8} (h1 : 1 ≤ n) (h8 : n ≤ 8) (hin : at_ + n ≤ B.length) (h : On W0 (OwnB (.slice a B.length B.length) B :: blk b8 [.slice a B.length B.length] 22 :: L) w) : Calls Try.prog 118 #[.int .i64 (at_ : Int), .int .i64 (n : Int), .pointer (some ⟨b8, 0, none⟩)] w (Ret fun v w' => v = .int .u64 (fieldR B at_ n : Int) ∧ On W0 (OwnB (.slice a B.length B.length) B :: blk b8 [.slice a B.length B.length] 22 :: L) w') := by
  refine enter Try.func118 rfl Try.ntmps118 rfl ?_
  refine W.seq ?_
  refine W.region ?_
  refine WL.val run_assign rfl rfl ?_
  refine WL.nil ?_
  refine W.seq ?_
  refine W.region ?_
  refine WL.val (run_load1 Try.isAgg22 rfl (h.cellB rfl)) rfl rfl ?_
  refine WL.val run_move rfl rfl ?_
  refine WL.val run_move rfl rfl ?_
  refine WL.eff (eff_call Try.call80 (bget_ok (at_ := (at_ : Int)) (n := (n : Int)) (bs := B) h (Gives.ownO (v := .slice a B.length B.length)))) rfl rfl ?_
  rintro _ w hg
  rcases hg with ⟨_, hv, h⟩ | ⟨hno, _, _⟩
  rotate_left
  · exact absurd (show _ by omega) hno
  have hv : _ = Value.tuple #[.int .u64 (fieldR B at_ n : Int), .bool true] := hv
  subst hv
  refine WL.val run_move rfl rfl ?_
  refine WL.val (run_extract rfl rfl) rfl rfl ?_
  refine WL.val (run_extract rfl rfl) rfl rfl ?_
  refine WL.val run_assign rfl rfl ?_
  refine WL.val run_assign rfl rfl ?_
  refine WL.nil ?_
  refine W.seq ?_
  refine W.region ?_
  refine WL.val run_move rfl rfl ?_
  refine WL.val run_assign rfl rfl ?_
  refine WL.nil ?_
  refine W.ret ?_
  refine bodyQ.r1 (v := .int .u64 _) Try.results118 rfl ?_
  -- path 
  exact ⟨rfl, h⟩

theorem runp_ok {ax : Option Addr} {cx : Nat} {s : List UInt8} (h : On W0 L w) (C : Gives L (Bytes (.slice ax s.length cx) s)) (hsl : s.length ≤ 1000000) : Calls Try.prog 112 #[.slice ax s.length cx] w (Ret fun v w' => ((unpackR s).err = 0 ∧ ∃ a c, v = .tuple #[.int .u64 ((unpackR s).number : Int), .int .u32 ((unpackR s).life : Int), .int .i64 ((unpackR s).part : Int), .int .i64 ((unpackR s).parts : Int), .slice a (unpackR s).b.length c, .int .i64 0] ∧ On W0 (OwnB (.slice a (unpackR s).b.length c) (unpackR s).b :: L) w') ∨ ((unpackR s).err ≠ 0 ∧ v = .tuple #[.int .u64 0, .int .u32 0, .int .i64 0, .int .i64 0, .slice none 0 0, .int .i64 (unpackR s).err] ∧ On W0 L w')) := by
  refine enter Try.func112 rfl Try.ntmps112 rfl ?_
  have hmx := maxLen_eq
  refine W.seq ?_
  refine W.region ?_
  refine WL.val run_assign rfl rfl ?_
  refine WL.val run_assign rfl rfl ?_
  refine WL.val run_assign rfl rfl ?_
  refine WL.val run_assign rfl rfl ?_
  refine WL.val run_assign rfl rfl ?_
  refine WL.val run_assign rfl rfl ?_
  refine WL.nil ?_
  refine W.seq ?_
  refine W.seq ?_
  refine W.region ?_
  refine WL.val run_move rfl rfl ?_
  refine WL.val (run_lenSlice Try.underlying22 rfl) rfl rfl ?_
  refine WL.val (run_neq rfl rfl) rfl rfl ?_
  refine WL.nil ?_
  refine W.condIf rfl (fun c2 => ?_) (fun c2 => ?_)
  · skip
    refine W.seq ?_
    refine W.region ?_
    refine WL.val run_assign rfl rfl ?_
    refine WL.val run_assign rfl rfl ?_
    refine WL.val run_assign rfl rfl ?_
    refine WL.val run_assign rfl rfl ?_
    refine WL.val run_assign rfl rfl ?_
    refine WL.val run_assign rfl rfl ?_
    refine WL.nil ?_
    refine W.ret ?_
    refine bodyQ.r6 (v1 := .int .u64 _) (v2 := .int .u32 _) (v3 := .int .i64 _) (v4 := .int .i64 _) (v5 := .slice _ _ _) (v6 := .int .i64 _) Try.results112 rfl rfl rfl rfl rfl rfl ?_
    -- path T
    have e : unpackR s = ⟨0, 0, 0, 0, [], 3⟩ := by unfold unpackR; rw [if_pos (by omega)]
    exact .inr ⟨by rw [e]; show (3 : Int) ≠ 0; decide, by rw [e], h⟩
  · skip
    refine W.skip ?_
    refine W.seq ?_
    have hs : s.length = 512 := by omega
    have eB : s.take (s.length - 4) = s.take 508 := by rw [hs]
    have ob_ : ∃ B, B = s.take 508 := ⟨_, rfl⟩
    obtain ⟨B, hB⟩ := ob_
    have hBl : B.length = 508 := by rw [hB, List.length_take]; omega
    refine W.region ?_
    refine WL.val run_move rfl rfl ?_
    refine WL.eff (eff_call Try.call79 (open_ok h C (by omega))) rfl rfl ?_
    rintro _ w hg
    rcases hg with ⟨ho, _, a18, hv, h⟩ | ⟨ho, hv, h⟩
    · skip
      rw [eB, ← hB] at hv h
      subst hv
      have hu : unpackR s = if 480 < fieldR B 20 2 then ⟨0, 0, 0, 0, [], 2⟩ else
          if (packR (fieldR B 4 8) (fieldR B 12 4) (fieldR B 16 2) (fieldR B 18 2) (valR B)).2 ≠ 0 ∨ (packR (fieldR B 4 8) (fieldR B 12 4) (fieldR B 16 2) (fieldR B 18 2) (valR B)).1 ≠ s then ⟨0, 0, 0, 0, [], 2⟩ else
          ⟨fieldR B 4 8, fieldR B 12 4, fieldR B 16 2, fieldR B 18 2, valR B, 0⟩ := by
        unfold unpackR
        rw [if_neg (by omega), if_neg (by rw [ho]; decide), ← hB]
      refine WL.val run_move rfl rfl ?_
      refine WL.val (run_extract rfl rfl) rfl rfl ?_
      refine WL.val (run_extract rfl rfl) rfl rfl ?_
      refine WL.eff (eff_alloc h Try.zeroValue22 rfl) rfl rfl ?_
      rintro _ w ⟨b8, rfl, h⟩
      refine WL.eff (eff_store (v := .slice _ _ _) h Try.sizeOf22 rfl rfl rfl rfl rfl) rfl rfl ?_
      rintro _ w h
      try simp only [Nat.zero_add, Nat.add_zero, List.set_cons_zero, List.set_cons_succ] at h
      refine WL.val run_assign rfl rfl ?_
      refine WL.nil ?_
      refine W.seq ?_
      refine W.seq ?_
      refine W.region ?_
      refine WL.val run_move rfl rfl ?_
      refine WL.val (run_neqF rfl rfl (rfl)) rfl rfl ?_
      refine WL.nil ?_
      refine W.condF rfl ?_
      refine W.skip ?_
      refine W.seq ?_
      have h := h.fetch (OwnB (.slice a18 B.length B.length) B)
      have f1 := fieldR_lt B 4 8
      have f2 := fieldR_lt B 12 4
      have f3 := fieldR_lt B 16 2
      have f4 := fieldR_lt B 18 2
      have f5 := fieldR_lt B 20 2
      refine W.region ?_
      refine WL.val run_makeFunc rfl rfl ?_
      refine WL.val run_assign rfl rfl ?_
      refine WL.nil ?_
      refine W.seq ?_
      refine W.region ?_
      refine WL.val run_move rfl rfl ?_
      refine WL.eff (eff_call2C (v1 := .int .i64 ((4 : Nat) : Int)) (v2 := .int .i64 ((8 : Nat) : Int)) rfl Try.call118 rfl rfl (rnget_ok (a := a18) (b8 := b8) (at_ := 4) (n := 8) (B := B) (by decide) (by decide) (by omega) h)) rfl rfl ?_
      rintro _ w ⟨rfl, h⟩
      refine WL.val run_move rfl rfl ?_
      refine WL.eff (eff_call2C (v1 := .int .i64 ((12 : Nat) : Int)) (v2 := .int .i64 ((4 : Nat) : Int)) rfl Try.call118 rfl rfl (rnget_ok (a := a18) (b8 := b8) (at_ := 12) (n := 4) (B := B) (by decide) (by decide) (by omega) h)) rfl rfl ?_
      rintro _ w ⟨rfl, h⟩
      refine WL.val (run_convIn Try.underlying40 Try.underlying59 rfl (by show (0 : Int) ≤ _; omega) (by show _ ≤ (4294967295 : Int); omega)) rfl rfl ?_
      refine WL.val run_move rfl rfl ?_
      refine WL.eff (eff_call2C (v1 := .int .i64 ((16 : Nat) : Int)) (v2 := .int .i64 ((2 : Nat) : Int)) rfl Try.call118 rfl rfl (rnget_ok (a := a18) (b8 := b8) (at_ := 16) (n := 2) (B := B) (by decide) (by decide) (by omega) h)) rfl rfl ?_
      rintro _ w ⟨rfl, h⟩
      refine WL.val (run_convIn Try.underlying40 Try.underlying3 rfl (by show (-9223372036854775808 : Int) ≤ _; omega) (by show _ ≤ (9223372036854775807 : Int); omega)) rfl rfl ?_
      refine WL.val run_move rfl rfl ?_
      refine WL.eff (eff_call2C (v1 := .int .i64 ((18 : Nat) : Int)) (v2 := .int .i64 ((2 : Nat) : Int)) rfl Try.call118 rfl rfl (rnget_ok (a := a18) (b8 := b8) (at_ := 18) (n := 2) (B := B) (by decide) (by decide) (by omega) h)) rfl rfl ?_
      rintro _ w ⟨rfl, h⟩
      refine WL.val (run_convIn Try.underlying40 Try.underlying3 rfl (by show (-9223372036854775808 : Int) ≤ _; omega) (by show _ ≤ (9223372036854775807 : Int); omega)) rfl rfl ?_
      refine WL.val run_assign rfl rfl ?_
      refine WL.val run_assign rfl rfl ?_
      refine WL.val run_assign rfl rfl ?_
      refine WL.val run_assign rfl rfl ?_
      refine WL.nil ?_
      refine W.seq ?_
      refine W.region ?_
      refine WL.val run_move rfl rfl ?_
      refine WL.eff (eff_call2C (v1 := .int .i64 ((20 : Nat) : Int)) (v2 := .int .i64 ((2 : Nat) : Int)) rfl Try.call118 rfl rfl (rnget_ok (a := a18) (b8 := b8) (at_ := 20) (n := 2) (B := B) (by decide) (by decide) (by omega) h)) rfl rfl ?_
      rintro _ w ⟨rfl, h⟩
      refine WL.val (run_convIn Try.underlying40 Try.underlying3 rfl (by show (-9223372036854775808 : Int) ≤ _; omega) (by show _ ≤ (9223372036854775807 : Int); omega)) rfl rfl ?_
      refine WL.val run_assign rfl rfl ?_
      refine WL.nil ?_
      refine W.seq ?_
      refine W.seq ?_
      refine W.region ?_
      refine WL.val run_move rfl rfl ?_
      refine WL.val (run_gtr rfl rfl) rfl rfl ?_
      refine WL.nil ?_
      refine W.condIf rfl (fun c16 => ?_) (fun c16 => ?_)
      · skip
        refine W.seq ?_
        refine W.region ?_
        refine WL.val run_assign rfl rfl ?_
        refine WL.val run_assign rfl rfl ?_
        refine WL.val run_assign rfl rfl ?_
        refine WL.val run_assign rfl rfl ?_
        refine WL.val run_assign rfl rfl ?_
        refine WL.val run_assign rfl rfl ?_
        refine WL.nil ?_
        refine W.ret ?_
        refine bodyQ.r6 (v1 := .int .u64 _) (v2 := .int .u32 _) (v3 := .int .i64 _) (v4 := .int .i64 _) (v5 := .slice _ _ _) (v6 := .int .i64 _) Try.results112 rfl rfl rfl rfl rfl rfl ?_
        -- path FTT
        rw [if_pos (by omega)] at hu
        exact .inr ⟨by rw [hu]; show (2 : Int) ≠ 0; decide, by rw [hu], h.to⟩
      · skip
        refine W.skip ?_
        refine W.seq ?_
        have hle : fieldR B 20 2 ≤ 480 := by omega
        rw [if_neg (by omega)] at hu
        have hcut := cut_bytes (L := [OwnB (.slice a18 B.length B.length) B]) (l := 22) (h := 22 + fieldR B 20 2) (bs := B) Gives.own (Nat.le_refl _) (by omega) (by omega)
        have epq : 22 + fieldR B 20 2 - 22 = fieldR B 20 2 := by omega
        have evl : (B.drop 22).take (fieldR B 20 2) = valR B := rfl
        rw [epq, evl] at hcut
        obtain ⟨a', c', hcut, gV⟩ := hcut
        have hvl : (valR B).length = fieldR B 20 2 := by unfold valR; rw [List.length_take, List.length_drop]; omega
        refine W.region ?_
        refine WL.val (run_load1 Try.isAgg22 rfl (h.cellB rfl)) rfl rfl ?_
        refine WL.val run_move rfl rfl ?_
        refine WL.val (run_addN (m := 22) (n := fieldR B 20 2) rfl rfl (by omega)) rfl rfl ?_
        refine WL.val (run_cutLHV (l := 22) (h := 22 + fieldR B 20 2) Try.underlying22 Try.sizeOf5 rfl rfl rfl (by omega) (by omega) hcut) rfl rfl ?_
        refine WL.eff (eff_call Try.call68 (clone_bytes h (Gives.to gV) (by omega))) rfl rfl ?_
        rintro _ w ⟨a45, c45, rfl, h⟩
        refine WL.eff (eff_call Try.call81 (clip_bytes h)) rfl rfl ?_
        rintro _ w ⟨rfl, h⟩
        refine WL.val run_assign rfl rfl ?_
        refine WL.nil ?_
        refine W.seq ?_
        refine W.seq ?_
        refine W.region ?_
        refine WL.val run_move rfl rfl ?_
        refine WL.val run_move rfl rfl ?_
        refine WL.val run_move rfl rfl ?_
        refine WL.val run_move rfl rfl ?_
        refine WL.val run_move rfl rfl ?_
        refine WL.eff (eff_call Try.call91 (rpk_ok (number := fieldR B 4 8) (life := fieldR B 12 4) (part := fieldR B 16 2) (parts := fieldR B 18 2) (bb := valR B) f1 f2 f3 f4 h (Gives.ownO (v := .slice a45 (valR B).length (valR B).length)))) rfl rfl ?_
        rintro _ w hg
        rcases hg with ⟨hlt, _, hp, a53, rfl, h⟩ | ⟨_, hp, hv53, h⟩
        · skip
          refine WL.val run_move rfl rfl ?_
          refine WL.val (run_extract rfl rfl) rfl rfl ?_
          refine WL.val (run_extract rfl rfl) rfl rfl ?_
          refine WL.val run_assign rfl rfl ?_
          refine WL.val run_assign rfl rfl ?_
          refine WL.nil ?_
          refine W.seq ?_
          refine W.region ?_
          refine WL.val run_move rfl rfl ?_
          refine WL.val (run_neqF rfl rfl (rfl)) rfl rfl ?_
          refine WL.val run_move rfl rfl ?_
          refine WL.val run_move rfl rfl ?_
          refine WL.val run_move rfl rfl ?_
          refine WL.eff (eff_call Try.call82 (bequal_ok (bs := (secR (fieldR B 4 8) (fieldR B 12 4) (fieldR B 16 2) (fieldR B 18 2) (valR B))) (cs := s) h (Gives.ownO (v := .slice a53 (secR (fieldR B 4 8) (fieldR B 12 4) (fieldR B 16 2) (fieldR B 18 2) (valR B)).length (secR (fieldR B 4 8) (fieldR B 12 4) (fieldR B 16 2) (fieldR B 18 2) (valR B)).length)) (Gives.to C))) rfl rfl ?_
          rintro _ w ⟨rfl, h⟩
          refine WL.val (run_notDec rfl) rfl rfl ?_
          refine WL.val (run_pickF rfl) rfl rfl ?_
          refine WL.nil ?_
          refine W.condIf rfl (fun c23 => ?_) (fun c23 => ?_)
          · skip
            refine W.seq ?_
            refine W.region ?_
            refine WL.val run_assign rfl rfl ?_
            refine WL.val run_assign rfl rfl ?_
            refine WL.val run_assign rfl rfl ?_
            refine WL.val run_assign rfl rfl ?_
            refine WL.val run_assign rfl rfl ?_
            refine WL.val run_assign rfl rfl ?_
            refine WL.nil ?_
            refine W.ret ?_
            refine bodyQ.r6 (v1 := .int .u64 _) (v2 := .int .u32 _) (v3 := .int .i64 _) (v4 := .int .i64 _) (v5 := .slice _ _ _) (v6 := .int .i64 _) Try.results112 rfl rfl rfl rfl rfl rfl ?_
            -- path FTFTT
            rw [hp, if_pos (.inr c23)] at hu
            exact .inr ⟨by rw [hu]; show (2 : Int) ≠ 0; decide, by rw [hu], h.to⟩
          · skip
            refine W.skip ?_
            refine W.seq ?_
            refine W.region ?_
            refine WL.val run_move rfl rfl ?_
            refine WL.val run_move rfl rfl ?_
            refine WL.val run_move rfl rfl ?_
            refine WL.val run_move rfl rfl ?_
            refine WL.val run_move rfl rfl ?_
            refine WL.val run_assign rfl rfl ?_
            refine WL.val run_assign rfl rfl ?_
            refine WL.val run_assign rfl rfl ?_
            refine WL.val run_assign rfl rfl ?_
            refine WL.val run_assign rfl rfl ?_
            refine WL.val run_assign rfl rfl ?_
            refine WL.nil ?_
            refine W.ret ?_
            refine bodyQ.r6 (v1 := .int .u64 _) (v2 := .int .u32 _) (v3 := .int .i64 _) (v4 := .int .i64 _) (v5 := .slice _ _ _) (v6 := .int .i64 _) Try.results112 rfl rfl rfl rfl rfl rfl ?_
            -- path FTFTF
            rw [hp, if_neg (fun hh => by rcases hh with hh | hh; exact hh rfl; exact c23 hh)] at hu
            refine .inl ⟨by rw [hu], a45, (valR B).length, by rw [hu], ?_⟩
            rw [hu]
            exact h.to
        · skip
          subst hv53
          refine WL.val run_move rfl rfl ?_
          refine WL.val (run_extract rfl rfl) rfl rfl ?_
          refine WL.val (run_extract rfl rfl) rfl rfl ?_
          refine WL.val run_assign rfl rfl ?_
          refine WL.val run_assign rfl rfl ?_
          refine WL.nil ?_
          refine W.seq ?_
          refine W.region ?_
          refine WL.val run_move rfl rfl ?_
          refine WL.val (run_neqT rfl rfl (hp)) rfl rfl ?_
          refine WL.val run_move rfl rfl ?_
          refine WL.skip rfl rfl ?_
          refine WL.skip rfl rfl ?_
          refine WL.skip rfl rfl ?_
          refine WL.skip rfl rfl ?_
          refine WL.val (run_pickT rfl) rfl rfl ?_
          refine WL.nil ?_
          refine W.condT rfl ?_
          refine W.seq ?_
          refine W.region ?_
          refine WL.val run_assign rfl rfl ?_
          refine WL.val run_assign rfl rfl ?_
          refine WL.val run_assign rfl rfl ?_
          refine WL.val run_assign rfl rfl ?_
          refine WL.val run_assign rfl rfl ?_
          refine WL.val run_assign rfl rfl ?_
          refine WL.nil ?_
          refine W.ret ?_
          refine bodyQ.r6 (v1 := .int .u64 _) (v2 := .int .u32 _) (v3 := .int .i64 _) (v4 := .int .i64 _) (v5 := .slice _ _ _) (v6 := .int .i64 _) Try.results112 rfl rfl rfl rfl rfl rfl ?_
          -- path FTFF
          rw [if_pos (.inl hp)] at hu
          exact .inr ⟨by rw [hu]; show (2 : Int) ≠ 0; decide, by rw [hu], h.to⟩
    · skip
      subst hv
      refine WL.val run_move rfl rfl ?_
      refine WL.val (run_extract rfl rfl) rfl rfl ?_
      refine WL.val (run_extract rfl rfl) rfl rfl ?_
      refine WL.eff (eff_alloc h Try.zeroValue22 rfl) rfl rfl ?_
      rintro _ w ⟨b8, rfl, h⟩
      refine WL.eff (eff_store (v := .slice _ _ _) h Try.sizeOf22 rfl rfl rfl rfl rfl) rfl rfl ?_
      rintro _ w h
      try simp only [Nat.zero_add, Nat.add_zero, List.set_cons_zero, List.set_cons_succ] at h
      refine WL.val run_assign rfl rfl ?_
      refine WL.nil ?_
      refine W.seq ?_
      refine W.seq ?_
      refine W.region ?_
      refine WL.val run_move rfl rfl ?_
      refine WL.val (run_neqT rfl rfl (ho)) rfl rfl ?_
      refine WL.nil ?_
      refine W.condT rfl ?_
      refine W.seq ?_
      refine W.region ?_
      refine WL.val run_move rfl rfl ?_
      refine WL.val run_assign rfl rfl ?_
      refine WL.val run_assign rfl rfl ?_
      refine WL.val run_assign rfl rfl ?_
      refine WL.val run_assign rfl rfl ?_
      refine WL.val run_assign rfl rfl ?_
      refine WL.val run_assign rfl rfl ?_
      refine WL.nil ?_
      refine W.ret ?_
      refine bodyQ.r6 (v1 := .int .u64 _) (v2 := .int .u32 _) (v3 := .int .i64 _) (v4 := .int .i64 _) (v5 := .slice _ _ _) (v6 := .int .i64 _) Try.results112 rfl rfl rfl rfl rfl rfl ?_
      -- path FF
      have hu : unpackR s = ⟨0, 0, 0, 0, [], (openB s).2⟩ := by unfold unpackR; rw [if_neg (by omega), if_pos ho]
      exact .inr ⟨by rw [hu]; exact ho, by rw [hu], h.to⟩

end Go.Proofs.Ytlahgihjjabgmaa
