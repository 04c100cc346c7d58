/-
  The laws of disks. Lines of walks printed by a program of the prover's.
-/
import Derived.Test.YtlahgihjjabgmaaDisk4
import Derived.Test.YtlahgihjjabgmaaDiskLaws
import Derived.Test.YtlahgihjjabgmaaDiskCrash
namespace Go.Proofs.Ytlahgihjjabgmaa
open Go Go.Sl Go.Sl.DkM
set_option linter.unusedVariables false
set_option linter.unusedSimpArgs false
set_option maxHeartbeats 1000000
set_option maxRecDepth 8000
variable {W0 w : World} {L F : List HProp}

theorem dknown_ok (h : On W0 F w) : Calls Try.prog 15 #[] w (Ret fun v w' => v = .bool true ∧ On W0 F w') := by
  refine enter Try.func15 rfl Try.ntmps15 rfl ?_
  refine W.seq ?_
  refine W.region ?_
  refine WL.val run_assign rfl rfl ?_
  refine WL.nil ?_
  refine W.seq ?_
  refine W.region ?_
  refine WL.eff (eff_call Try.call16 (new_ok h)) rfl rfl ?_
  rintro _ w hv
  rcases hv with ⟨_, _, b, rfl, h⟩ | ⟨hno, _, _⟩
  rotate_left
  · exact absurd ⟨by decide, by decide⟩ hno
  refine WL.val run_move rfl rfl ?_
  refine WL.val (run_extract rfl rfl) rfl rfl ?_
  refine WL.val (run_extract rfl rfl) rfl rfl ?_
  refine WL.val run_assign rfl rfl ?_
  refine WL.val run_assign rfl rfl ?_
  refine WL.nil ?_
  refine W.seq ?_
  refine W.seq ?_
  refine W.region ?_
  refine WL.val run_move rfl rfl ?_
  refine WL.val (run_neqF rfl rfl (rfl)) rfl rfl ?_
  refine WL.val run_move rfl rfl ?_
  refine WL.val run_move rfl rfl ?_
  refine WL.val (run_eqlPtrNil Try.underlying26 rfl rfl) rfl rfl ?_
  refine WL.val (run_pickF rfl) rfl rfl ?_
  refine WL.nil ?_
  refine W.condF rfl ?_
  refine W.skip ?_
  refine W.seq ?_
  refine W.region ?_
  refine WL.val run_move rfl rfl ?_
  refine WL.eff (eff_mkSlice (zl := [.int .u8 0]) (out := [.int .u8 _]) h Try.underlying22 Try.sizeOf5 Try.zeroValue5 (by decide) (by kernel_rfl) rfl rfl (by simp) (⟨⟨_, _, rfl, rfl, by decide⟩, trivial⟩) rfl rfl (by simp [maxLen])) rfl rfl ?_
  rintro _ w ⟨b21, rfl, h⟩
  refine WL.eff (eff_ofString h rfl (by omega) Try.underlying22 Try.underlying5) rfl rfl ?_
  rintro _ w ⟨rfl, h⟩
  refine WL.eff (eff_call Try.call17 (write_ok (d := newD 3) (k := 1) (bs := [120]) ⟨by decide, by decide⟩ (h.fetch (DiskP 106 110 b (newD 3))) (Gives.ownO (v := .slice (some ⟨b21, 0, none⟩) 1 1)))) rfl rfl ?_
  rintro _ w ⟨rfl, h⟩
  have e : writeD (newD 3) 1 [120] = (0, (⟨3, [(1, ⟨[], [[120]]⟩)], false, false, 0, [], 1⟩ : Dk)) := by rfl
  rw [e] at h
  refine WL.val run_assign rfl rfl ?_
  refine WL.nil ?_
  refine W.seq ?_
  refine W.region ?_
  refine WL.val run_move rfl rfl ?_
  refine WL.eff (eff_call Try.call18 (flush_ok (d := (⟨3, [(1, ⟨[], [[120]]⟩)], false, false, 0, [], 1⟩ : Dk)) ⟨by decide, by decide⟩ h)) rfl rfl ?_
  rintro _ w ⟨rfl, h⟩
  have e : flushD (⟨3, [(1, ⟨[], [[120]]⟩)], false, false, 0, [], 1⟩ : Dk) = (0, (⟨3, [(1, ⟨[120], []⟩)], false, false, 0, [], 2⟩ : Dk)) := by rfl
  rw [e] at h
  refine WL.val run_assign rfl rfl ?_
  refine WL.nil ?_
  refine W.seq ?_
  refine W.region ?_
  refine WL.val run_move rfl rfl ?_
  refine WL.eff (eff_mkSlice (zl := [.int .u8 0]) (out := [.int .u8 _]) h Try.underlying22 Try.sizeOf5 Try.zeroValue5 (by decide) (by kernel_rfl) rfl rfl (by simp) (⟨⟨_, _, rfl, rfl, by decide⟩, trivial⟩) rfl rfl (by simp [maxLen])) rfl rfl ?_
  rintro _ w ⟨b27, rfl, h⟩
  refine WL.eff (eff_ofString h rfl (by omega) Try.underlying22 Try.underlying5) rfl rfl ?_
  rintro _ w ⟨rfl, h⟩
  refine WL.eff (eff_call Try.call17 (write_ok (d := (⟨3, [(1, ⟨[120], []⟩)], false, false, 0, [], 2⟩ : Dk)) (k := 1) (bs := [121]) ⟨by decide, by decide⟩ (h.fetch (DiskP 106 110 b (⟨3, [(1, ⟨[120], []⟩)], false, false, 0, [], 2⟩ : Dk))) (Gives.ownO (v := .slice (some ⟨b27, 0, none⟩) 1 1)))) rfl rfl ?_
  rintro _ w ⟨rfl, h⟩
  have e : writeD (⟨3, [(1, ⟨[120], []⟩)], false, false, 0, [], 2⟩ : Dk) 1 [121] = (0, (⟨3, [(1, ⟨[120], [[121]]⟩)], false, false, 0, [], 3⟩ : Dk)) := by rfl
  rw [e] at h
  refine WL.nil ?_
  refine W.seq ?_
  refine W.region ?_
  refine WL.val run_move rfl rfl ?_
  refine WL.eff (eff_call Try.call23 (waiting_ok (d := (⟨3, [(1, ⟨[120], [[121]]⟩)], false, false, 0, [], 3⟩ : Dk)) ⟨by decide, by decide⟩ h)) rfl rfl ?_
  rintro _ w ⟨rfl, h⟩
  refine WL.val run_assign rfl rfl ?_
  refine WL.nil ?_
  refine W.seq ?_
  refine W.region ?_
  refine WL.val run_move rfl rfl ?_
  refine WL.eff (eff_call Try.call19 (crashP (d := (⟨3, [(1, ⟨[120], [[121]]⟩)], false, false, 0, [], 3⟩ : Dk)) (picks := []) (ap := none) (cp := 0) (by decide) h Gives.nilC)) rfl rfl ?_
  rintro _ w h
  have e : crashD (⟨3, [(1, ⟨[120], [[121]]⟩)], false, false, 0, [], 3⟩ : Dk) [] = (⟨3, [(1, ⟨[120], []⟩)], true, false, 0, [], 3⟩ : Dk) := by rfl
  rw [e] at h
  refine WL.nil ?_
  refine W.seq ?_
  refine W.region ?_
  refine WL.val run_move rfl rfl ?_
  refine WL.eff (eff_call Try.call21 (read_ok (d := (⟨3, [(1, ⟨[120], []⟩)], true, false, 0, [], 3⟩ : Dk)) (k := 1) h)) rfl rfl ?_
  rintro _ w hv
  rcases hv with ⟨h0, _⟩ | ⟨_, rfl, h⟩
  · exact absurd h0 (by decide)
  refine WL.val run_move rfl rfl ?_
  refine WL.val (run_extract rfl rfl) rfl rfl ?_
  refine WL.val (run_extract rfl rfl) rfl rfl ?_
  refine WL.val run_assign rfl rfl ?_
  refine WL.val run_assign rfl rfl ?_
  refine WL.nil ?_
  refine W.seq ?_
  refine W.region ?_
  refine WL.val run_move rfl rfl ?_
  refine WL.eff (eff_call Try.call20 (don_ok (d := (⟨3, [(1, ⟨[120], []⟩)], true, false, 0, [], 3⟩ : Dk)) h)) rfl rfl ?_
  rintro _ w h
  refine WL.nil ?_
  refine W.seq ?_
  refine W.region ?_
  refine WL.val run_move rfl rfl ?_
  refine WL.eff (eff_call Try.call21 (read_ok (d := (⟨3, [(1, ⟨[120], []⟩)], false, false, 0, [], 3⟩ : Dk)) (k := 1) h)) rfl rfl ?_
  rintro _ w hv
  rcases hv with ⟨_, br, rfl, h⟩ | ⟨h0, _, _⟩
  rotate_left
  · exact absurd (by rfl) h0
  have e : readD (⟨3, [(1, ⟨[120], []⟩)], false, false, 0, [], 3⟩ : Dk) 1 = full [120] := by rfl
  rw [e] at h
  refine WL.val run_move rfl rfl ?_
  refine WL.val (run_extract rfl rfl) rfl rfl ?_
  refine WL.val (run_extract rfl rfl) rfl rfl ?_
  refine WL.val run_assign rfl rfl ?_
  refine WL.val run_assign rfl rfl ?_
  refine WL.nil ?_
  refine W.seq ?_
  refine W.region ?_
  refine WL.val run_move rfl rfl ?_
  refine WL.val run_move rfl rfl ?_
  refine WL.val (run_add rfl rfl (by decide) (by decide)) rfl rfl ?_
  refine WL.val run_move rfl rfl ?_
  refine WL.val (run_add rfl rfl (by decide) (by decide)) rfl rfl ?_
  refine WL.val (run_eqlT rfl rfl (rfl)) rfl rfl ?_
  refine WL.val run_move rfl rfl ?_
  refine WL.val run_move rfl rfl ?_
  refine WL.val (run_eqlT rfl rfl (rfl)) rfl rfl ?_
  refine WL.val (run_pickT rfl) rfl rfl ?_
  refine WL.val run_move rfl rfl ?_
  refine WL.val run_move rfl rfl ?_
  refine WL.val (run_eqlT rfl rfl (rfl)) rfl rfl ?_
  refine WL.val (run_pickT rfl) rfl rfl ?_
  refine WL.val run_move rfl rfl ?_
  refine WL.val run_move rfl rfl ?_
  refine WL.val (run_lenSlice Try.underlying22 rfl) rfl rfl ?_
  refine WL.val (run_eqlT rfl rfl (rfl)) rfl rfl ?_
  refine WL.val (run_pickT rfl) rfl rfl ?_
  refine WL.val run_move rfl rfl ?_
  refine WL.val run_move rfl rfl ?_
  refine WL.val (run_indexAddr Try.underlying22 Try.sizeOf5 rfl rfl (by decide) (by decide)) rfl rfl ?_
  refine WL.val (run_load1 Try.isAgg5 rfl ((h.cellsO (v := .slice (some ⟨br, 0, none⟩) 512 512)).elem (i := 0) (vs := [.int .u8 120]) (by decide) rfl 0 _ rfl)) rfl rfl ?_
  refine WL.val (run_eqlT rfl rfl (rfl)) rfl rfl ?_
  refine WL.val (run_pickT rfl) rfl rfl ?_
  refine WL.val run_move rfl rfl ?_
  refine WL.val run_move rfl rfl ?_
  refine WL.eff (eff_call Try.call63 (sectors_ok (d := (⟨3, [(1, ⟨[120], []⟩)], false, false, 0, [], 3⟩ : Dk)) (h.fetch (DiskP 106 110 b (⟨3, [(1, ⟨[120], []⟩)], false, false, 0, [], 3⟩ : Dk))))) rfl rfl ?_
  rintro _ w ⟨rfl, h⟩
  refine WL.val (run_eqlT rfl rfl (rfl)) rfl rfl ?_
  refine WL.val (run_pickT rfl) rfl rfl ?_
  refine WL.val run_move rfl rfl ?_
  refine WL.val run_move rfl rfl ?_
  refine WL.eff (eff_call Try.call64 (calls_ok (d := (⟨3, [(1, ⟨[120], []⟩)], false, false, 0, [], 3⟩ : Dk)) h)) rfl rfl ?_
  rintro _ w ⟨rfl, h⟩
  refine WL.val (run_eqlT rfl rfl (rfl)) rfl rfl ?_
  refine WL.val (run_pickT rfl) rfl rfl ?_
  refine WL.val run_assign rfl rfl ?_
  refine WL.nil ?_
  refine W.ret ?_
  refine bodyQ.r1 (v := .bool _) Try.results15 rfl ?_
  -- path 
  exact ⟨rfl, h.to⟩

theorem full_ok {ax : Option Addr} {cx : Nat} {bs : List UInt8} (hl : bs.length ≤ 512) (h : On W0 L w) (C : Gives L (Bytes (.slice ax bs.length cx) bs)) : Calls Try.prog 22 #[.slice ax bs.length cx] w (Ret fun v w' => ∃ a c, v = .slice a 512 c ∧ On W0 (Own 1 (.slice a 512 c) 512 (bytesV (full bs)) :: L) w') := by
  refine enter Try.func22 rfl Try.ntmps22 rfl ?_
  have hmx := maxLen_eq
  refine W.seq ?_
  refine W.region ?_
  refine WL.val run_assign rfl rfl ?_
  refine WL.nil ?_
  refine W.seq ?_
  refine W.region ?_
  refine WL.eff (eff_mkSlice (zl := []) (out := []) h Try.underlying22 Try.sizeOf5 Try.zeroValue5 (by decide) (by simp) rfl rfl (by simp) (trivial) rfl rfl (by simp [maxLen])) rfl rfl ?_
  rintro _ w ⟨b3, rfl, h⟩
  refine WL.val run_move rfl rfl ?_
  refine WL.eff (eff_app0 (bytes := 1) h rfl rfl (h.readsTo C) Try.underlying22 rfl rfl rfl rfl rfl (by omega) (by omega) bytes_one) rfl rfl ?_
  rintro _ w ⟨a5, c5, rfl, h⟩
  refine WL.val run_move rfl rfl ?_
  refine WL.val (run_lenSlice Try.underlying22 rfl) rfl rfl ?_
  refine WL.val (run_subN (m := 512) (n := bs.length) rfl rfl (by omega) (by omega)) rfl rfl ?_
  refine WL.eff (eff_appZ (m := 512 - bs.length) (bytes := 1) h rfl rfl Try.underlying22 Try.underlying3 rfl rfl rfl rfl rfl (by omega) (by omega) rfl) rfl rfl ?_
  rintro _ w ⟨a9, c9, rfl, h⟩
  refine WL.val run_assign rfl rfl ?_
  refine WL.nil ?_
  refine W.ret ?_
  refine bodyQ.r1 (v := .slice _ _ _) Try.results22 rfl ?_
  -- path 
  have e : bytesV bs ++ List.replicate (512 - bs.length) (.int .u8 0) = bytesV (full bs) := by
    unfold full bytesV
    rw [List.map_append, List.take_of_length_le (by omega), List.map_replicate]
    rfl
  have e2 : bs.length + (512 - bs.length) = 512 := by omega
  rw [e, e2] at h
  exact ⟨a9, c9, by rw [e2], h⟩

theorem lasts_ok {a0 a1 a2 : Option Addr} {c0 c1 c2 : Nat} {first : List UInt8} {later : List BX} {picks : List Int} (h : On W0 F w) (B0 : Gives F (Bytes (.slice a0 first.length c0) first)) (C1 : Gives F (Cells 1 (.slice a1 later.length c1) later.length (later.map BX.v))) (B1 : ∀ x ∈ later, Gives F (Bytes x.v x.b)) (C2 : Gives F (Cells 1 (.slice a2 picks.length c2) picks.length (intsV picks))) : Calls Try.prog 3 #[.slice a0 first.length c0, .slice a1 later.length c1, .slice a2 picks.length c2] w (Ret fun v w' => v = .bool true ∧ On W0 F w') := by
  refine enter Try.func3 rfl Try.ntmps3 rfl ?_
  have hmx := maxLen_eq
  have ob_ := Cells.bounds (h.readsTo C1)
  obtain ⟨hb1, hb2⟩ := ob_
  have hDrop : True := trivial
  refine W.seq ?_
  refine W.region ?_
  refine WL.val run_assign rfl rfl ?_
  refine WL.nil ?_
  refine W.seq ?_
  refine W.seq ?_
  refine W.region ?_
  refine WL.eff (eff_call Try.call15 (dknown_ok h)) rfl rfl ?_
  rintro _ w ⟨rfl, h⟩
  refine WL.val (run_not rfl) rfl rfl ?_
  refine WL.nil ?_
  refine W.condF rfl ?_
  refine W.skip ?_
  refine W.seq ?_
  refine W.seq ?_
  refine W.region ?_
  refine WL.val run_move rfl rfl ?_
  refine WL.val (run_lenSlice Try.underlying22 rfl) rfl rfl ?_
  refine WL.dec (run_gtr rfl rfl) rfl rfl (fun c20 => ?_) (fun c20 => ?_)
  · skip
    refine WL.val run_move rfl rfl ?_
    refine WL.skip rfl rfl ?_
    refine WL.skip rfl rfl ?_
    refine WL.skip rfl rfl ?_
    refine WL.val (run_pickT rfl) rfl rfl ?_
    refine WL.val run_move rfl rfl ?_
    refine WL.skip rfl rfl ?_
    refine WL.skip rfl rfl ?_
    refine WL.skip rfl rfl ?_
    refine WL.val (run_pickT rfl) rfl rfl ?_
    refine WL.nil ?_
    refine W.condT rfl ?_
    refine W.seq ?_
    refine W.region ?_
    refine WL.val run_assign rfl rfl ?_
    refine WL.nil ?_
    refine W.ret ?_
    refine bodyQ.r1 (v := .bool _) Try.results3 rfl ?_
    -- path T
    exact ⟨rfl, h⟩
  · skip
    refine WL.val run_move rfl rfl ?_
    refine WL.val run_move rfl rfl ?_
    refine WL.val (run_lenSlice Try.underlying23 rfl) rfl rfl ?_
    refine WL.dec (run_gtr rfl rfl) rfl rfl (fun c24 => ?_) (fun c24 => ?_)
    · skip
      refine WL.val (run_pickF rfl) rfl rfl ?_
      refine WL.val run_move rfl rfl ?_
      refine WL.skip rfl rfl ?_
      refine WL.skip rfl rfl ?_
      refine WL.skip rfl rfl ?_
      refine WL.val (run_pickT rfl) rfl rfl ?_
      refine WL.nil ?_
      refine W.condT rfl ?_
      refine W.seq ?_
      refine W.region ?_
      refine WL.val run_assign rfl rfl ?_
      refine WL.nil ?_
      refine W.ret ?_
      refine bodyQ.r1 (v := .bool _) Try.results3 rfl ?_
      -- path FT
      exact ⟨rfl, h⟩
    · skip
      refine WL.val (run_pickF rfl) rfl rfl ?_
      refine WL.val run_move rfl rfl ?_
      refine WL.val run_move rfl rfl ?_
      refine WL.val (run_lenSlice Try.underlying24 rfl) rfl rfl ?_
      refine WL.val (run_gtr rfl rfl) rfl rfl ?_
      refine WL.val (run_pickF rfl) rfl rfl ?_
      refine WL.nil ?_
      refine W.condIf rfl (fun c7 => ?_) (fun c7 => ?_)
      · skip
        refine W.seq ?_
        refine W.region ?_
        refine WL.val run_assign rfl rfl ?_
        refine WL.nil ?_
        refine W.ret ?_
        refine bodyQ.r1 (v := .bool _) Try.results3 rfl ?_
        -- path FFT
        exact ⟨rfl, h⟩
      · skip
        refine W.skip ?_
        refine W.seq ?_
        have hfl : first.length ≤ 512 := by omega
        have hll : later.length ≤ 20 := by omega
        refine W.region ?_
        refine WL.eff (eff_call Try.call16 (new_ok h)) rfl rfl ?_
        rintro _ w hv
        rcases hv with ⟨_, _, b, rfl, h⟩ | ⟨hno, _, _⟩
        rotate_left
        · exact absurd ⟨by decide, by decide⟩ hno
        refine WL.val run_move rfl rfl ?_
        refine WL.val (run_extract rfl rfl) rfl rfl ?_
        refine WL.val (run_extract rfl rfl) rfl rfl ?_
        refine WL.val run_assign rfl rfl ?_
        refine WL.val run_assign rfl rfl ?_
        refine WL.nil ?_
        refine W.seq ?_
        refine W.region ?_
        refine WL.val run_move rfl rfl ?_
        refine WL.val run_move rfl rfl ?_
        refine WL.eff (eff_call Try.call17 (write_ok (d := newD 2) (k := 0) (bs := first) ⟨by decide, by decide⟩ h (Gives.to B0))) rfl rfl ?_
        rintro _ w ⟨-, h⟩
        rw [las1 hfl] at h
        refine WL.nil ?_
        refine W.seq ?_
        refine W.region ?_
        refine WL.val run_move rfl rfl ?_
        refine WL.val run_move rfl rfl ?_
        refine WL.eff (eff_call Try.call17 (write_ok (k := 1) (bs := first) ⟨by show (1 : Int) ≤ 1000000000000; decide, by show (0 : Int) ≤ 1000000000000000000; decide⟩ h (Gives.to B0))) rfl rfl ?_
        rintro _ w ⟨-, h⟩
        rw [las2 hfl] at h
        refine WL.nil ?_
        refine W.seq ?_
        refine W.region ?_
        refine WL.val run_move rfl rfl ?_
        refine WL.eff (eff_call Try.call18 (flush_ok ⟨by show (2 : Int) ≤ 1000000000000; decide, by show (0 : Int) ≤ 1000000000000000000; decide⟩ h)) rfl rfl ?_
        rintro _ w ⟨-, h⟩
        rw [las3] at h
        refine WL.nil ?_
        refine W.seq ?_
        refine W.seq ?_
        refine W.region ?_
        refine WL.val run_assign rfl rfl ?_
        refine WL.nil ?_
        refine W.block ?_
        refine W.loop (fun (i : Nat) env w => i ≤ later.length ∧ (∀ x ∈ later.take i, x.2.2.length ≤ 512) ∧ ∃ j, env = mkE j [(0, .slice a0 first.length c0), (1, .slice a1 later.length c1), (2, .slice a2 picks.length c2), (7, .pointer (some ⟨b, 0, none⟩)), (9, .int .i64 (i : Nat))] ∧ On W0 (DiskP 106 110 b (lasD ⟨first, (later.take i).map BX.b⟩ first false (3 + (i : Nat))) :: F) w) (fun i => later.length - i) (0) ?_ ?_
        · exact ⟨Nat.zero_le _, fun x hx => by simp at hx, _, mkE_of ⟨rfl, rfl, rfl, rfl, rfl, trivial⟩, (show On W0 (DiskP 106 110 b (lasD ⟨first, (later.take 0).map BX.b⟩ first false (3 + (0 : Nat))) :: F) w from h)⟩
        · rintro i env w ⟨hi, hlens, j, rfl, h⟩
          refine W.seq ?_
          refine W.seq ?_
          refine W.region ?_
          refine WL.val run_move rfl rfl ?_
          refine WL.val run_move rfl rfl ?_
          refine WL.val (run_lenSlice Try.underlying23 rfl) rfl rfl ?_
          refine WL.val (run_lss rfl rfl) rfl rfl ?_
          refine WL.nil ?_
          refine W.condIf rfl (fun c19 => ?_) (fun c19 => ?_)
          · skip
            refine W.skip ?_
            refine W.seq ?_
            refine W.block ?_
            refine W.seq ?_
            refine W.seq ?_
            have ob_ : ∃ x, later[i]? = some x := ⟨later[i]'(by omega), by simp⟩
            obtain ⟨x, hx⟩ := ob_
            have hxm : x ∈ later := List.mem_of_getElem? hx
            have hC1 := h.readsTo C1
            have ob_ := hC1.addr (by omega)
            obtain ⟨b1, o1, ha1⟩ := ob_
            subst ha1
            refine W.region ?_
            refine WL.val run_move rfl rfl ?_
            refine WL.val run_move rfl rfl ?_
            refine WL.val (run_indexAddr Try.underlying23 Try.sizeOf22 rfl rfl (by omega) (by omega)) rfl rfl ?_
            refine WL.val (run_load1 Try.isAgg22 rfl ((h.readsTo C1).elem (i := i) (vs := [.slice x.1 x.2.2.length x.2.1]) (by omega) (row_v hx) 0 _ rfl)) rfl rfl ?_
            refine WL.val (run_lenSlice Try.underlying22 rfl) rfl rfl ?_
            refine WL.val (run_gtr rfl rfl) rfl rfl ?_
            refine WL.nil ?_
            refine W.condIf rfl (fun c24 => ?_) (fun c24 => ?_)
            · skip
              refine W.seq ?_
              refine W.region ?_
              refine WL.val run_assign rfl rfl ?_
              refine WL.nil ?_
              refine W.ret ?_
              refine bodyQ.r1 (v := .bool _) Try.results3 rfl ?_
              -- path FFFLTT
              first | exact ⟨rfl, h.to⟩ | exact absurd hall (by assumption)
            · skip
              refine W.skip ?_
              refine W.region ?_
              refine WL.val run_move rfl rfl ?_
              refine WL.val run_move rfl rfl ?_
              refine WL.val run_move rfl rfl ?_
              refine WL.val (run_indexAddr Try.underlying23 Try.sizeOf22 rfl rfl (by omega) (by omega)) rfl rfl ?_
              refine WL.val (run_load1 Try.isAgg22 rfl ((h.readsTo C1).elem (i := i) (vs := [.slice x.1 x.2.2.length x.2.1]) (by omega) (row_v hx) 0 _ rfl)) rfl rfl ?_
              refine WL.eff (eff_call Try.call17 (write_ok (k := 0) (bs := x.2.2) ⟨by show (3 : Int) + (i : Nat) ≤ 1000000000000; omega, by show (0 : Int) ≤ _; decide⟩ h (Gives.to (B1 x hxm)))) rfl rfl ?_
              rintro _ w ⟨-, h⟩
              rw [lasW (by omega), show (later.take i).map BX.b ++ [x.2.2] = (later.take (i + 1)).map BX.b by rw [take_snoc hx, List.map_append]; rfl, show (3 : Int) + (i : Nat) + 1 = 3 + ((i + 1 : Nat) : Int) by omega] at h
              refine WL.nil ?_
              refine W.region ?_
              refine WL.val run_move rfl rfl ?_
              refine WL.val (run_add rfl rfl (by omega) (by omega)) rfl rfl ?_
              refine WL.val run_assign rfl rfl ?_
              refine WL.nil ?_
              -- round, path FFFLTF
              exact ⟨i + 1, ⟨by omega, fun y hy => by rw [take_snoc hx] at hy; rcases List.mem_append.1 hy with hy | hy; exact hlens y hy; simp at hy; subst hy; omega, _, mkE_of ⟨rfl, rfl, rfl, rfl, rfl, trivial⟩, h⟩, by show later.length - (i + 1) < later.length - i; omega⟩
          · skip
            refine W.exit ?_
            refine W.seq ?_
            refine W.region ?_
            refine WL.val run_move rfl rfl ?_
            refine WL.val run_move rfl rfl ?_
            refine WL.eff (eff_call Try.call19 (crashP (picks := picks) (by show (3 : Int) + (i : Nat) ≤ 1000000000000000000; omega) h (Gives.to C2))) rfl rfl ?_
            rintro _ w h
            have hlc := lasC (k := first) (first := first) (ws := (later.take i).map BX.b) (c := 3 + (i : Nat)) (picks := picks)
            obtain ⟨k, hk, hcr⟩ := hlc
            rw [hcr] at h
            rw [List.take_of_length_le (show later.length ≤ i by omega)] at hk hlens
            have ob_ : ∃ cc : Int, cc = 3 + (i : Nat) := ⟨_, rfl⟩
            obtain ⟨cc, hcc⟩ := ob_
            have hccb : cc ≤ 1000 := by omega
            rw [← hcc] at h
            refine WL.nil ?_
            refine W.seq ?_
            refine W.region ?_
            refine WL.val run_move rfl rfl ?_
            refine WL.eff (eff_call Try.call20 (don_ok h)) rfl rfl ?_
            rintro _ w h
            have h : On W0 (DiskP 106 110 b (lasD ⟨k, []⟩ first false cc) :: F) w := h
            refine WL.nil ?_
            refine W.seq ?_
            refine W.region ?_
            refine WL.val run_move rfl rfl ?_
            refine WL.eff (eff_call Try.call21 (read_ok (k := 0) h)) rfl rfl ?_
            rintro _ w hv
            rcases hv with ⟨_, br, rfl, h⟩ | ⟨h0, _, _⟩
            rotate_left
            · exact absurd (by rfl) h0
            rw [lasR0] at h
            refine WL.val run_move rfl rfl ?_
            refine WL.val (run_extract rfl rfl) rfl rfl ?_
            refine WL.val (run_extract rfl rfl) rfl rfl ?_
            refine WL.val run_assign rfl rfl ?_
            refine WL.val run_assign rfl rfl ?_
            refine WL.nil ?_
            refine W.seq ?_
            refine W.region ?_
            refine WL.val run_move rfl rfl ?_
            refine WL.eff (eff_call Try.call21 (read_ok (k := 1) (h.fetch (DiskP 106 110 b (lasD ⟨k, []⟩ first false cc))))) rfl rfl ?_
            rintro _ w hv
            rcases hv with ⟨_, bq, rfl, h⟩ | ⟨h0, _, _⟩
            rotate_left
            · exact absurd (by rfl) h0
            rw [lasR1] at h
            refine WL.val run_move rfl rfl ?_
            refine WL.val (run_extract rfl rfl) rfl rfl ?_
            refine WL.val (run_extract rfl rfl) rfl rfl ?_
            refine WL.val run_assign rfl rfl ?_
            refine WL.val run_assign rfl rfl ?_
            refine WL.nil ?_
            refine W.seq ?_
            refine W.seq ?_
            refine W.draw Try.follows h (fun w h => ?_)
            refine WT.pure 0 rfl (by kernel_rfl) (fun w' => run_move) rfl rfl ?_
            refine WT.pure 1 rfl (by kernel_rfl) (fun w' => run_move) rfl rfl ?_
            refine WT.pure 2 rfl (by kernel_rfl) (fun w' => (run_add rfl rfl (by decide) (by decide))) rfl rfl ?_
            refine WT.pure 3 rfl (by kernel_rfl) (fun w' => run_neqF rfl rfl (rfl)) rfl rfl ?_
            refine WT.pure 4 rfl (by kernel_rfl) (fun w' => run_move) rfl rfl ?_
            refine WT.pure 5 rfl (by kernel_rfl) (fun w' => run_move) rfl rfl ?_
            refine WT.take 6 (fun w => Cells 1 (.slice (some ⟨bq, 0, none⟩) 512 512) 512 (bytesV (full first)) (hp w)) rfl (by kernel_rfl) rfl rfl (h.cellsO) (fun w' hC => run_bytesStr Try.underlying22 Try.underlying5 Try.underlying9 rfl hC) ?_
            refine WT.pure 7 rfl (by kernel_rfl) (fun w' => run_move) rfl rfl ?_
            refine WT.eff 8 [true] rfl (by kernel_rfl) (by kernel_rfl) (eff_call Try.call22 (full_ok (bs := first) (by first | assumption | omega) h (Gives.to B0))) rfl rfl ?_
            rintro _ w ⟨a84, c84, rfl, h⟩
            refine ⟨⟨h.cellsO, trivial⟩, ?_⟩
            refine WT.take 9 (fun w => Cells 1 (.slice a84 512 c84) 512 (bytesV (full first)) (hp w)) rfl (by kernel_rfl) rfl rfl (h.cellsO) (fun w' hC => run_bytesStr Try.underlying22 Try.underlying5 Try.underlying9 rfl hC) ?_
            refine WT.pure 10 rfl (by kernel_rfl) (fun w' => (run_neqStrF rfl rfl rfl)) rfl rfl ?_
            refine WT.pure 11 rfl (by kernel_rfl) (fun w' => (run_pickF rfl)) rfl rfl ?_
            refine WT.done (by kernel_rfl) ?_
            refine W.condF rfl ?_
            refine W.skip ?_
            refine W.seq ?_
            refine W.draw Try.follows h (fun w h => ?_)
            refine WT.pure 0 rfl (by kernel_rfl) (fun w' => run_move) rfl rfl ?_
            refine WT.take 1 (fun w => Cells 1 (.slice (some ⟨br, 0, none⟩) 512 512) 512 (bytesV (full k)) (hp w)) rfl (by kernel_rfl) rfl rfl (h.cellsO) (fun w' hC => run_bytesStr Try.underlying22 Try.underlying5 Try.underlying9 rfl hC) ?_
            refine WT.pure 2 rfl (by kernel_rfl) (fun w' => run_move) rfl rfl ?_
            refine WT.eff 3 [true] rfl (by kernel_rfl) (by kernel_rfl) (eff_call Try.call22 (full_ok (bs := first) (by first | assumption | omega) h (Gives.to B0))) rfl rfl ?_
            rintro _ w ⟨a91, c91, rfl, h⟩
            refine ⟨⟨h.cellsO, trivial⟩, ?_⟩
            refine WT.take 4 (fun w => Cells 1 (.slice a91 512 c91) 512 (bytesV (full first)) (hp w)) rfl (by kernel_rfl) rfl rfl (h.cellsO) (fun w' hC => run_bytesStr Try.underlying22 Try.underlying5 Try.underlying9 rfl hC) ?_
            refine WT.pure 5 rfl (by kernel_rfl) (fun w' => (run_eqlStr rfl rfl)) rfl rfl ?_
            refine WT.pure 6 rfl (by kernel_rfl) (fun w' => run_assign) rfl rfl ?_
            refine WT.done (by kernel_rfl) ?_
            refine W.seq ?_
            refine W.seq ?_
            refine W.region ?_
            refine WL.val run_assign rfl rfl ?_
            refine WL.nil ?_
            refine W.block ?_
            refine W.loop (fun (i : Nat) env w => i ≤ later.length ∧ ∃ j, env = mkE j [(1, .slice a1 later.length c1), (7, .pointer (some ⟨b, 0, none⟩)), (10, .slice (some ⟨br, 0, none⟩) 512 512), (14, .bool (decide (full k = full first ∨ ∃ x ∈ later.take i, full k = full x.b))), (15, .int .i64 (i : Nat))] ∧ On W0 (DiskP 106 110 b (lasD ⟨k, []⟩ first false cc) :: Own 1 (.slice (some ⟨br, 0, none⟩) 512 512) 512 (bytesV (full k)) :: F) w) (fun i => later.length - i) (0) ?_ ?_
            · exact ⟨Nat.zero_le _, _, mkE_of ⟨rfl, rfl, rfl, (congrArg Value.bool (decide_eq_decide.2 (by simp [Go.ByteArray.toList_eq]))), rfl, trivial⟩, h.to⟩
            · rintro i env w ⟨hi, j, rfl, h⟩
              refine W.seq ?_
              refine W.seq ?_
              refine W.region ?_
              refine WL.val run_move rfl rfl ?_
              refine WL.val run_move rfl rfl ?_
              refine WL.val (run_lenSlice Try.underlying23 rfl) rfl rfl ?_
              refine WL.val (run_lss rfl rfl) rfl rfl ?_
              refine WL.nil ?_
              refine W.condIf rfl (fun c44 => ?_) (fun c44 => ?_)
              · skip
                refine W.skip ?_
                refine W.seq ?_
                refine W.block ?_
                have ob_ : ∃ x, later[i]? = some x := ⟨later[i]'(by omega), by simp⟩
                obtain ⟨x, hx⟩ := ob_
                have hxm : x ∈ later := List.mem_of_getElem? hx
                have hC1 := h.readsTo C1
                have ob_ := hC1.addr (by omega)
                obtain ⟨b1, o1, ha1⟩ := ob_
                subst ha1
                have hmono : (full k = full first ∨ ∃ x ∈ later.take i, full k = full x.b) → (full k = full first ∨ ∃ x ∈ later.take (i + 1), full k = full x.b) := by
                  rintro (h0 | ⟨y, hy, h0⟩)
                  · exact .inl h0
                  · exact .inr ⟨y, by rw [take_snoc hx]; exact List.mem_append_left _ hy, h0⟩
                have hnext : ¬ (full k = full first ∨ ∃ x ∈ later.take i, full k = full x.b) → ((⟨(full k).toArray⟩ : ByteArray).toList = (⟨(full x.2.2).toArray⟩ : ByteArray).toList ↔ (full k = full first ∨ ∃ x ∈ later.take (i + 1), full k = full x.b)) := by
                  intro hno
                  rw [Go.ByteArray.toList_eq, Go.ByteArray.toList_eq]
                  show full k = full x.2.2 ↔ _
                  constructor
                  · intro e
                    exact .inr ⟨x, by rw [take_snoc hx]; exact List.mem_append_right _ (by simp), e⟩
                  · rintro (h0 | ⟨y, hy, h0⟩)
                    · exact absurd (.inl h0) hno
                    · rw [take_snoc hx] at hy
                      have ob_ := List.mem_append.1 hy
                      rcases ob_ with hy | hy
                      · exact absurd (.inr ⟨y, hy, h0⟩) hno
                      · simp at hy; subst hy; exact h0
                have hxl : x.2.2.length ≤ 512 := hlens x hxm
                refine W.draw Try.follows h (fun w h => ?_)
                refine WT.dec 0 rfl (by kernel_rfl) (fun w' => run_move) rfl rfl (fun c100 => ?_) (fun c100 => ?_)
                · skip
                  refine WT.pure 1 rfl (by kernel_rfl) (fun w' => run_move) rfl rfl ?_
                  refine WT.skip 2 rfl (by kernel_rfl) rfl rfl ?_
                  refine WT.skip 3 rfl (by kernel_rfl) rfl rfl ?_
                  refine WT.skip 4 rfl (by kernel_rfl) rfl rfl ?_
                  refine WT.skip 5 rfl (by kernel_rfl) rfl rfl ?_
                  refine WT.skip 6 rfl (by kernel_rfl) rfl rfl ?_
                  refine WT.skip 7 rfl (by kernel_rfl) rfl rfl ?_
                  refine WT.skip 8 rfl (by kernel_rfl) rfl rfl ?_
                  refine WT.skip 9 rfl (by kernel_rfl) rfl rfl ?_
                  refine WT.skip 10 rfl (by kernel_rfl) rfl rfl ?_
                  refine WT.pure 11 rfl (by kernel_rfl) (fun w' => (run_pickT rfl)) rfl rfl ?_
                  refine WT.pure 12 rfl (by kernel_rfl) (fun w' => run_assign) rfl rfl ?_
                  refine WT.done (by kernel_rfl) ?_
                  refine W.region ?_
                  refine WL.val run_move rfl rfl ?_
                  refine WL.val (run_add rfl rfl (by omega) (by omega)) rfl rfl ?_
                  refine WL.val run_assign rfl rfl ?_
                  refine WL.nil ?_
                  -- round, path FFFLFLTT
                  exact ⟨i + 1, ⟨by omega, _, mkE_of ⟨rfl, rfl, rfl, (congrArg Value.bool (decide_eq_true (hmono c100))).symm, rfl, trivial⟩, h.to⟩, by show later.length - (i + 1) < later.length - i; omega⟩
                · skip
                  refine WT.pure 1 rfl (by kernel_rfl) (fun w' => run_move) rfl rfl ?_
                  refine WT.pure 2 rfl (by kernel_rfl) (fun w' => run_move) rfl rfl ?_
                  refine WT.take 3 (fun w => Cells 1 (.slice (some ⟨br, 0, none⟩) 512 512) 512 (bytesV (full k)) (hp w)) rfl (by kernel_rfl) rfl rfl (h.cellsO) (fun w' hC => run_bytesStr Try.underlying22 Try.underlying5 Try.underlying9 rfl hC) ?_
                  refine WT.pure 4 rfl (by kernel_rfl) (fun w' => run_move) rfl rfl ?_
                  refine WT.pure 5 rfl (by kernel_rfl) (fun w' => run_move) rfl rfl ?_
                  refine WT.pure 6 rfl (by kernel_rfl) (fun w' => (run_indexAddr Try.underlying23 Try.sizeOf22 rfl rfl (by omega) (by omega))) rfl rfl ?_
                  refine WT.load1 7 rfl (by kernel_rfl) Try.isAgg22 rfl ((h.readsTo C1).elem (i := i) (vs := [.slice x.1 x.2.2.length x.2.1]) (by omega) (row_v hx) 0 _ rfl) rfl rfl ?_
                  refine WT.eff 8 [false, true] rfl (by kernel_rfl) (by kernel_rfl) (eff_call Try.call22 (full_ok (bs := x.2.2) (by first | assumption | omega) h (Gives.to (B1 x hxm)))) rfl rfl ?_
                  rintro _ w ⟨a108, c108, rfl, h⟩
                  refine ⟨⟨h.cellsO, trivial⟩, ?_⟩
                  refine WT.take 9 (fun w => Cells 1 (.slice a108 512 c108) 512 (bytesV (full x.2.2)) (hp w)) rfl (by kernel_rfl) rfl rfl (h.cellsO) (fun w' hC => run_bytesStr Try.underlying22 Try.underlying5 Try.underlying9 rfl hC) ?_
                  refine WT.dec 10 rfl (by kernel_rfl) (fun w' => (run_eqlStr rfl rfl)) rfl rfl (fun c110 => ?_) (fun c110 => ?_)
                  · skip
                    refine WT.pure 11 rfl (by kernel_rfl) (fun w' => (run_pickF rfl)) rfl rfl ?_
                    refine WT.pure 12 rfl (by kernel_rfl) (fun w' => run_assign) rfl rfl ?_
                    refine WT.done (by kernel_rfl) ?_
                    refine W.region ?_
                    refine WL.val run_move rfl rfl ?_
                    refine WL.val (run_add rfl rfl (by omega) (by omega)) rfl rfl ?_
                    refine WL.val run_assign rfl rfl ?_
                    refine WL.nil ?_
                    -- round, path FFFLFLTFT
                    exact ⟨i + 1, ⟨by omega, _, mkE_of ⟨rfl, rfl, rfl, (congrArg Value.bool (by first | exact (decide_eq_true ((hnext c100).1 c110)).symm | exact (decide_eq_false (fun hh => c110 ((hnext c100).2 hh))).symm)), rfl, trivial⟩, h.to⟩, by show later.length - (i + 1) < later.length - i; omega⟩
                  · skip
                    refine WT.pure 11 rfl (by kernel_rfl) (fun w' => (run_pickF rfl)) rfl rfl ?_
                    refine WT.pure 12 rfl (by kernel_rfl) (fun w' => run_assign) rfl rfl ?_
                    refine WT.done (by kernel_rfl) ?_
                    refine W.region ?_
                    refine WL.val run_move rfl rfl ?_
                    refine WL.val (run_add rfl rfl (by omega) (by omega)) rfl rfl ?_
                    refine WL.val run_assign rfl rfl ?_
                    refine WL.nil ?_
                    -- round, path FFFLFLTFF
                    exact ⟨i + 1, ⟨by omega, _, mkE_of ⟨rfl, rfl, rfl, (congrArg Value.bool (by first | exact (decide_eq_true ((hnext c100).1 c110)).symm | exact (decide_eq_false (fun hh => c110 ((hnext c100).2 hh))).symm)), rfl, trivial⟩, h.to⟩, by show later.length - (i + 1) < later.length - i; omega⟩
              · skip
                refine W.exit ?_
                refine W.seq ?_
                have hall : (full k = full first ∨ ∃ x ∈ later.take i, full k = full x.b) := by
                  rw [List.take_of_length_le (show later.length ≤ i by omega)]
                  rcases hk with e | hk
                  · exact .inl (by rw [e])
                  · have ob_ := List.mem_map.1 hk
                    obtain ⟨x, hx, e⟩ := ob_
                    exact .inr ⟨x, hx, by rw [e]⟩
                refine W.region ?_
                refine WL.dec run_move rfl rfl (fun c112 => ?_) (fun c112 => ?_)
                · skip
                  refine WL.val run_move rfl rfl ?_
                  refine WL.val run_move rfl rfl ?_
                  refine WL.eff (eff_call Try.call23 (waiting_ok (d := lasD ⟨k, []⟩ first false cc) ⟨by show cc ≤ 1000000000000; omega, by show (0 : Int) ≤ _; decide⟩ h)) rfl rfl ?_
                  rintro _ w ⟨rfl, h⟩
                  refine WL.val (run_eqlT rfl rfl (rfl)) rfl rfl ?_
                  refine WL.val (run_pickT rfl) rfl rfl ?_
                  refine WL.val run_assign rfl rfl ?_
                  refine WL.nil ?_
                  refine W.ret ?_
                  refine bodyQ.r1 (v := .bool _) Try.results3 rfl ?_
                  -- path FFFLFLFT
                  first | exact ⟨rfl, h.to⟩ | exact absurd hall (by assumption)
                · skip
                  refine WL.val run_move rfl rfl ?_
                  refine WL.skip rfl rfl ?_
                  refine WL.skip rfl rfl ?_
                  refine WL.skip rfl rfl ?_
                  refine WL.val (run_pickF rfl) rfl rfl ?_
                  refine WL.val run_assign rfl rfl ?_
                  refine WL.nil ?_
                  refine W.ret ?_
                  refine bodyQ.r1 (v := .bool _) Try.results3 rfl ?_
                  -- path FFFLFLFF
                  first | exact ⟨rfl, h.to⟩ | exact absurd hall (by assumption)

end Go.Proofs.Ytlahgihjjabgmaa
