/-
  DiskOrder. Lines of walks printed by a program of the prover's.
-/
import Derived.Test.YtlahgihjjabgmaaDiskLaw
import Derived.Test.YtlahgihjjabgmaaDiskOrd
import Derived.Test.YtlahgihjjabgmaaDiskCrash
namespace Go.Proofs.Ytlahgihjjabgmaa
open Go Go.Sl Go.Sl.DkM
set_option linter.unusedVariables false
set_option linter.unusedSimpArgs false
set_option maxHeartbeats 1000000
set_option maxRecDepth 8000
variable {W0 w : World} {L F : List HProp}

theorem order_ok {a0 a1 : Option Addr} {c0 c1 : Nat} {row : List UInt8} {picks : List Int} (h : On W0 F w) (B0 : Gives F (Bytes (.slice a0 row.length c0) row)) (C1 : Gives F (Cells 1 (.slice a1 picks.length c1) picks.length (intsV picks))) : Calls Try.prog 4 #[.slice a0 row.length c0, .slice a1 picks.length c1] w (Ret fun v w' => v = .bool true ∧ On W0 F w') := by
  refine enter Try.func4 rfl Try.ntmps4 rfl ?_
  have hmx := maxLen_eq
  have ob_ := Cells.bounds (h.readsTo B0)
  obtain ⟨hb1, hb2⟩ := ob_
  have ob_ := Cells.bounds (h.readsTo C1)
  obtain ⟨hb3, hb4⟩ := ob_
  refine W.seq ?_
  refine W.region ?_
  refine WL.val run_assign rfl rfl ?_
  refine WL.nil ?_
  refine W.seq ?_
  refine W.seq ?_
  refine W.region ?_
  refine WL.eff (eff_call Try.call15 (dknown_ok h)) rfl rfl ?_
  rintro _ w ⟨rfl, h⟩
  refine WL.val (run_not rfl) rfl rfl ?_
  refine WL.nil ?_
  refine W.condF rfl ?_
  refine W.skip ?_
  refine W.seq ?_
  refine W.seq ?_
  refine W.region ?_
  refine WL.val run_move rfl rfl ?_
  refine WL.val (run_lenSlice Try.underlying22 rfl) rfl rfl ?_
  refine WL.dec (run_gtr rfl rfl) rfl rfl (fun c20 => ?_) (fun c20 => ?_)
  · skip
    refine WL.val run_move rfl rfl ?_
    refine WL.skip rfl rfl ?_
    refine WL.skip rfl rfl ?_
    refine WL.skip rfl rfl ?_
    refine WL.val (run_pickT rfl) rfl rfl ?_
    refine WL.nil ?_
    refine W.condT rfl ?_
    refine W.seq ?_
    refine W.region ?_
    refine WL.val run_assign rfl rfl ?_
    refine WL.nil ?_
    refine W.ret ?_
    refine bodyQ.r1 (v := .bool _) Try.results4 rfl ?_
    -- path T
    exact ⟨rfl, h.to⟩
  · skip
    refine WL.val run_move rfl rfl ?_
    refine WL.val run_move rfl rfl ?_
    refine WL.val (run_lenSlice Try.underlying24 rfl) rfl rfl ?_
    refine WL.val (run_gtr rfl rfl) rfl rfl ?_
    refine WL.val (run_pickF rfl) rfl rfl ?_
    refine WL.nil ?_
    refine W.condIf rfl (fun c7 => ?_) (fun c7 => ?_)
    · skip
      refine W.seq ?_
      refine W.region ?_
      refine WL.val run_assign rfl rfl ?_
      refine WL.nil ?_
      refine W.ret ?_
      refine bodyQ.r1 (v := .bool _) Try.results4 rfl ?_
      -- path FT
      exact ⟨rfl, h.to⟩
    · skip
      refine W.skip ?_
      refine W.seq ?_
      have hrl : row.length ≤ 30 := by omega
      have hpl : picks.length ≤ 20 := by omega
      refine W.region ?_
      refine WL.eff (eff_call Try.call16 (new_ok h)) rfl rfl ?_
      rintro _ w hv
      rcases hv with ⟨_, _, b, rfl, h⟩ | ⟨hno, _, _⟩
      rotate_left
      · exact absurd ⟨by decide, by decide⟩ hno
      refine WL.val run_move rfl rfl ?_
      refine WL.val (run_extract rfl rfl) rfl rfl ?_
      refine WL.val (run_extract rfl rfl) rfl rfl ?_
      refine WL.val run_assign rfl rfl ?_
      refine WL.val run_assign rfl rfl ?_
      refine WL.nil ?_
      refine W.seq ?_
      refine W.region ?_
      refine WL.eff (eff_alloc h Try.zeroValue38 rfl) rfl rfl ?_
      rintro _ w ⟨b7, rfl, h⟩
      refine WL.nil ?_
      refine W.seq ?_
      refine W.seq ?_
      have h := bigEmpty (Own.ofBlk (n := 8) (size := 1) h rfl (by decide)) 8
      have h : On W0 (BigB (List.replicate 8 (none, 0, [])) :: Own 1 (.slice (some ⟨b7, 0, none⟩) 8 8) 8 ((List.replicate 8 ((none, 0, []) : BX)).map BX.v) :: DiskP 106 110 b (newD 8) :: F) w := h
      refine W.region ?_
      refine WL.val run_assign rfl rfl ?_
      refine WL.nil ?_
      refine W.block ?_
      refine W.loop (fun (i : Nat) env w => i ≤ row.length ∧ ∃ j d ws, env = mkE j [(0, .slice a0 row.length c0), (1, .slice a1 picks.length c1), (5, .pointer (some ⟨b, 0, none⟩)), (7, .pointer (some ⟨b7, 0, none⟩)), (8, .int .i64 (i : Nat))] ∧ OrdI d ws i ∧ On W0 (DiskP 106 110 b d :: Own 1 (.slice (some ⟨b7, 0, none⟩) 8 8) 8 (ws.map BX.v) :: BigB ws :: F) w) (fun i => row.length - i) (0) ?_ ?_
      · exact ⟨Nat.zero_le _, _, newD 8, List.replicate 8 (none, 0, []), mkE_of ⟨rfl, rfl, rfl, rfl, rfl, trivial⟩, ord0, h.to⟩
      · rintro i env w ⟨hi, j, d, ws, rfl, hI, h⟩
        refine W.seq ?_
        refine W.seq ?_
        refine W.region ?_
        refine WL.val run_move rfl rfl ?_
        refine WL.val run_move rfl rfl ?_
        refine WL.val (run_lenSlice Try.underlying22 rfl) rfl rfl ?_
        refine WL.val (run_lss rfl rfl) rfl rfl ?_
        refine WL.nil ?_
        refine W.condIf rfl (fun c17 => ?_) (fun c17 => ?_)
        · skip
          refine W.skip ?_
          refine W.seq ?_
          refine W.block ?_
          refine W.seq ?_
          have hir : i < row.length := by omega
          have ob_ : ∃ r, row[i]? = some r := ⟨row[i], by simp [hir]⟩
          obtain ⟨r, hr⟩ := ob_
          have hB0 := h.readsTo B0
          have ob_ := Cells.addr hB0 (by omega)
          obtain ⟨ba, o0, ha0⟩ := ob_
          subst ha0
          have hr8 : (r.toNat : Int) ≤ 255 := by have := r.toNat_lt; omega
          have hk7 : (r.toNat % 2 ^ 3) < 8 := Nat.mod_lt _ (by decide)
          have hwl := hI.len
          have ob_ : ∃ x, ws[(r.toNat % 2 ^ 3)]? = some x := ⟨ws[(r.toNat % 2 ^ 3)]'(by omega), by simp⟩
          obtain ⟨⟨xa, xc, xb⟩, hx⟩ := ob_
          have hok := diskOk h
          have hstep := fun a c => ordStep (a := a) (c := c) (b := UInt8.ofNat (i + 1)) hI hok hx
          have hxl : xb.length ≤ i := (hI.look _ _ hx).2
          have hlow : d.low := by
            obtain ⟨⟨m, rfl⟩, _⟩ := hI
            exact ⟨by show (i : Int) ≤ 1000000000000; omega, by show (0 : Int) ≤ 1000000000000000000; decide⟩
          refine W.region ?_
          refine WL.val run_move rfl rfl ?_
          refine WL.val run_move rfl rfl ?_
          refine WL.val (run_indexAddr Try.underlying22 Try.sizeOf5 rfl rfl (by omega) (by omega)) rfl rfl ?_
          refine WL.val (run_load1 Try.isAgg5 rfl ((h.readsTo B0).elem (i := i) (vs := [.int .u8 (r.toNat : Int)]) (by omega) (bytes_row hr) 0 _ rfl)) rfl rfl ?_
          refine WL.val (run_andMod 3 (m := r.toNat) (n := 7) rfl rfl hr8 (by decide) rfl) rfl rfl ?_
          refine WL.val (run_convInt64 Try.underlying5 Try.underlying3 rfl (by omega) (by omega)) rfl rfl ?_
          refine WL.val run_assign rfl rfl ?_
          refine WL.nil ?_
          refine W.seq ?_
          refine W.region ?_
          refine WL.val run_move rfl rfl ?_
          refine WL.val run_move rfl rfl ?_
          refine WL.val run_move rfl rfl ?_
          refine WL.val (run_incN rfl rfl (by omega)) rfl rfl ?_
          refine WL.val (run_convByte Try.underlying3 Try.underlying5 rfl) rfl rfl ?_
          refine WL.eff (eff_mkSlice (zl := [.int .u8 0]) (out := [.int .u8 _]) h Try.underlying22 Try.sizeOf5 Try.zeroValue5 (by decide) (by kernel_rfl) rfl rfl (by simp) (⟨⟨_, _, rfl, rfl, by decide⟩, trivial⟩) rfl rfl (by simp [maxLen])) rfl rfl ?_
          rintro _ w ⟨b47, rfl, h⟩
          refine WL.eff (eff_call Try.call17 (write_ok (d := d) (k := ((r.toNat % 2 ^ 3) : Nat)) (bs := [UInt8.ofNat (i + 1)]) hlow (h.fetch (DiskP 106 110 b d)) (Gives.ownO (v := .slice (some ⟨b47, 0, none⟩) 1 1)))) rfl rfl ?_
          rintro _ w ⟨-, h⟩
          refine WL.nil ?_
          refine W.region ?_
          refine WL.val run_move rfl rfl ?_
          refine WL.val run_move rfl rfl ?_
          refine WL.val (run_indexAddrArr Try.underlying38 Try.sizeOf22 rfl rfl (by omega) (by omega)) rfl rfl ?_
          refine WL.val (run_load1 Try.isAgg22 rfl ((h.cellsO (v := .slice (some ⟨b7, 0, none⟩) 8 8)).elem (i := (r.toNat % 2 ^ 3)) (vs := [.slice xa xb.length xc]) (by omega) (row_v hx) 0 _ rfl)) rfl rfl ?_
          refine WL.val run_move rfl rfl ?_
          refine WL.val (run_incN rfl rfl (by omega)) rfl rfl ?_
          refine WL.val (run_convByte Try.underlying3 Try.underlying5 rfl) rfl rfl ?_
          refine WL.eff (eff_mkSlice (zl := [.int .u8 0]) (out := [.int .u8 _]) h Try.underlying22 Try.sizeOf5 Try.zeroValue5 (by decide) (by kernel_rfl) rfl rfl (by simp) (⟨⟨_, _, rfl, rfl, by decide⟩, trivial⟩) rfl rfl (by simp [maxLen])) rfl rfl ?_
          rintro _ w ⟨b56, rfl, h⟩
          refine WL.eff (eff_app (c2 := 1) (bytes := 1) (BigB.open hx (h.fetch (BigB ws))) rfl rfl ((BigB.open hx (h.fetch (BigB ws))).cellsO (v := .slice (some ⟨b56, 0, none⟩) 1 1)) Try.underlying22 rfl rfl rfl rfl rfl (by omega) (by omega) (by simp [Value.oneCell'])) rfl rfl ?_
          rintro _ w ⟨a57, c57, rfl, h⟩
          refine WL.val (run_indexAddrArr Try.underlying38 Try.sizeOf22 rfl rfl (by omega) (by omega)) rfl rfl ?_
          refine WL.eff (eff_storeOwn (v := .slice a57 (xb.length + 1) c57) (k := (r.toNat % 2 ^ 3) * 1) (h.fetch (Own 1 (.slice (some ⟨b7, 0, none⟩) 8 8) 8 (ws.map BX.v))) Try.sizeOf22 rfl rfl rfl (by omega)) rfl rfl ?_
          rintro _ w h
          refine WL.nil ?_
          refine W.region ?_
          refine WL.val run_move rfl rfl ?_
          refine WL.val (run_add rfl rfl (by omega) (by omega)) rfl rfl ?_
          refine WL.val run_assign rfl rfl ?_
          refine WL.nil ?_
          -- round, path FFLT
          have e1 : xb.length + 1 = (xb ++ [UInt8.ofNat (i + 1)]).length := by simp
          have e2 : bytesV xb ++ [.int .u8 ((UInt8.ofNat (i + 1)).toNat : Int)] = bytesV (xb ++ [UInt8.ofNat (i + 1)]) := by simp [bytesV, byteV]
          rw [e1, e2] at h
          have e3 : ((ws.map BX.v).set ((r.toNat % 2 ^ 3) * 1) (.slice a57 (xb ++ [UInt8.ofNat (i + 1)]).length c57)) = (ws.set (r.toNat % 2 ^ 3) (a57, c57, xb ++ [UInt8.ofNat (i + 1)])).map BX.v := by rw [Nat.mul_one, List.map_set]; rfl
          rw [e3] at h
          have h := BigB.close (y := (a57, c57, xb ++ [UInt8.ofNat (i + 1)])) (List.getElem?_eq_some_iff.1 hx).1 ((h.fetch (BigB (ws.eraseIdx (r.toNat % 2 ^ 3)))).fetch (Own 1 (.slice a57 (xb ++ [UInt8.ofNat (i + 1)]).length c57) (xb ++ [UInt8.ofNat (i + 1)]).length (bytesV (xb ++ [UInt8.ofNat (i + 1)]))))
          exact ⟨i + 1, ⟨by omega, _, _, _, mkE_of ⟨rfl, rfl, rfl, rfl, rfl, trivial⟩, (hstep a57 c57).2, h.to⟩, by show row.length - (i + 1) < row.length - i; omega⟩
        · skip
          refine W.exit ?_
          refine W.seq ?_
          refine W.seq ?_
          have hir : i = row.length := by omega
          have hok := diskOk h
          have hwl := hI.len
          have hwt := hI.total
          have hr0 := rank_zero hok
          have hst : stE d = 0 := by obtain ⟨⟨m, rfl⟩, _⟩ := hI; rfl
          have hlow : d.low := by
            obtain ⟨⟨m, rfl⟩, _⟩ := hI
            exact ⟨by show (i : Int) ≤ 1000000000000; omega, by show (0 : Int) ≤ 1000000000000000000; decide⟩
          have hwait : (if stE d = 0 then (waitD d : Int) else 0) = (row.length : Int) := by
            rw [if_pos hst, ← hir]
            exact congrArg Nat.cast hwt
          refine W.region ?_
          refine WL.val run_move rfl rfl ?_
          refine WL.eff (eff_call Try.call23 (waiting_ok hlow h)) rfl rfl ?_
          rintro _ w ⟨rfl, h⟩
          refine WL.val run_move rfl rfl ?_
          refine WL.val (run_lenSlice Try.underlying22 rfl) rfl rfl ?_
          refine WL.val (run_neqF rfl rfl (hwait)) rfl rfl ?_
          refine WL.nil ?_
          refine W.condF rfl ?_
          refine W.skip ?_
          refine W.seq ?_
          refine W.region ?_
          refine WL.val run_move rfl rfl ?_
          refine WL.val run_move rfl rfl ?_
          refine WL.eff (eff_call Try.call19 (crashP (picks := picks) (Int.le_trans hlow.1 (by decide)) h (Gives.to C1))) rfl rfl ?_
          rintro _ w h
          refine WL.nil ?_
          refine W.seq ?_
          refine W.region ?_
          refine WL.val run_move rfl rfl ?_
          refine WL.eff (eff_call Try.call20 (don_ok h)) rfl rfl ?_
          rintro _ w h
          refine WL.nil ?_
          refine W.seq ?_
          refine W.region ?_
          refine WL.val run_assign rfl rfl ?_
          refine WL.nil ?_
          refine W.seq ?_
          refine W.seq ?_
          refine W.region ?_
          refine WL.val run_assign rfl rfl ?_
          refine WL.nil ?_
          refine W.block ?_
          refine W.loop (fun (n : Nat) env w => n ≤ 8 ∧ ∃ jk, env = mkE jk [(1, .slice a1 picks.length c1), (5, .pointer (some ⟨b, 0, none⟩)), (7, .pointer (some ⟨b7, 0, none⟩)), (10, .int .i64 (rank d.m (n : Int) : Nat)), (11, .int .i64 (n : Nat))] ∧ On W0 (DiskP 106 110 b ({ crashD d picks with off := false, armed := 0 } : Dk) :: Own 1 (.slice (some ⟨b7, 0, none⟩) 8 8) 8 (ws.map BX.v) :: BigB ws :: F) w) (fun n => 8 - n) (0) ?_ ?_
          · exact ⟨by omega, _, mkE_of ⟨rfl, rfl, rfl, (congrArg (fun z : Nat => Value.int .i64 (z : Int)) hr0).symm, rfl, trivial⟩, h⟩
          · rintro n env w ⟨hn, jk, rfl, h⟩
            refine W.seq ?_
            refine W.seq ?_
            refine W.region ?_
            refine WL.val run_move rfl rfl ?_
            refine WL.val (run_lss rfl rfl) rfl rfl ?_
            refine WL.nil ?_
            refine W.condIf rfl (fun c37 => ?_) (fun c37 => ?_)
            · skip
              refine W.skip ?_
              refine W.seq ?_
              refine W.block ?_
              refine W.seq ?_
              have hn8 : n < 8 := by omega
              have ob_ : ∃ x, ws[n]? = some x := ⟨ws[n]'(by omega), by simp⟩
              obtain ⟨⟨xa, xc, xb⟩, hx⟩ := ob_
              have hxl : xb.length ≤ i := (hI.look _ _ hx).2
              have hsome := ordSome hI hx
              have hread := ordRead (picks := picks) hI hx
              have hrs : rank d.m ((n + 1 : Nat) : Int) = rank d.m (n : Int) + (if someW d.m (n : Int) then 1 else 0) := rank_step hok.2.2.1 (n : Int)
              refine W.region ?_
              refine WL.val run_assign rfl rfl ?_
              refine WL.nil ?_
              refine W.cut (fun env w => ∃ jk, env = mkE jk [(1, .slice a1 picks.length c1), (5, .pointer (some ⟨b, 0, none⟩)), (7, .pointer (some ⟨b7, 0, none⟩)), (10, .int .i64 (rank d.m ((n + 1 : Nat) : Int) : Nat)), (11, .int .i64 (n : Nat)), (12, .int .u8 ((wantB xb (ordP d picks n xb)).toNat : Int))] ∧ On W0 (DiskP 106 110 b ({ crashD d picks with off := false, armed := 0 } : Dk) :: Own 1 (.slice (some ⟨b7, 0, none⟩) 8 8) 8 (ws.map BX.v) :: BigB ws :: F) w) ?_ ?_
              · skip
                refine W.seq ?_
                refine W.region ?_
                refine WL.val run_move rfl rfl ?_
                refine WL.val (run_indexAddrArr Try.underlying38 Try.sizeOf22 rfl rfl (by omega) (by omega)) rfl rfl ?_
                refine WL.val (run_load1 Try.isAgg22 rfl ((h.cellsO (v := .slice (some ⟨b7, 0, none⟩) 8 8)).elem (i := n) (vs := [.slice xa xb.length xc]) (by omega) (row_v hx) 0 _ rfl)) rfl rfl ?_
                refine WL.val (run_lenSlice Try.underlying22 rfl) rfl rfl ?_
                refine WL.val (run_gtr rfl rfl) rfl rfl ?_
                refine WL.nil ?_
                refine W.condIf rfl (fun c43 => ?_) (fun c43 => ?_)
                · skip
                  refine W.seq ?_
                  have hne : ¬ xb = [] := by intro e; rw [e] at c43; exact absurd c43 (by decide)
                  have hr1 : rank d.m ((n + 1 : Nat) : Int) = rank d.m (n : Int) + 1 := by
                    rw [hrs, hsome]
                    cases hb : xb with
                    | nil => exact absurd hb hne
                    | cons _ _ => rfl
                  have hple := pickP_le picks (rank d.m (n : Int)) xb.length
                  have hPN : (ordP d picks n xb) = (pickP picks (rank d.m (n : Int)) xb.length) := by unfold ordP; rw [if_neg hne]
                  have hrk : rank d.m (n : Int) ≤ 4096 := by
                    have h1 := hok.size
                    have h2 : rank d.m (n : Int) ≤ d.m.length := by unfold rank; exact List.length_filter_le _ _
                    omega
                  refine W.region ?_
                  refine WL.val run_assign rfl rfl ?_
                  refine WL.nil ?_
                  refine W.cut (fun env w => ∃ jk, env = mkE jk [(1, .slice a1 picks.length c1), (5, .pointer (some ⟨b, 0, none⟩)), (7, .pointer (some ⟨b7, 0, none⟩)), (10, .int .i64 (rank d.m (n : Int) : Nat)), (11, .int .i64 (n : Nat)), (12, .int .u8 0), (13, .int .i64 ((pickP picks (rank d.m (n : Int)) xb.length) : Nat))] ∧ On W0 (DiskP 106 110 b ({ crashD d picks with off := false, armed := 0 } : Dk) :: Own 1 (.slice (some ⟨b7, 0, none⟩) 8 8) 8 (ws.map BX.v) :: BigB ws :: F) w) ?_ ?_
                  · skip
                    refine W.seq ?_
                    refine W.region ?_
                    refine WL.val run_move rfl rfl ?_
                    refine WL.val run_move rfl rfl ?_
                    refine WL.val (run_lenSlice Try.underlying24 rfl) rfl rfl ?_
                    refine WL.val (run_lss rfl rfl) rfl rfl ?_
                    refine WL.nil ?_
                    refine W.condIf rfl (fun c46 => ?_) (fun c46 => ?_)
                    · skip
                      refine W.seq ?_
                      have ob_ : ∃ q, picks[rank d.m (n : Int)]? = some q := ⟨picks[rank d.m (n : Int)]'(by omega), by simp⟩
                      obtain ⟨q, hq⟩ := ob_
                      have hC1 := h.readsTo C1
                      have ob_ := Cells.addr hC1 (by omega)
                      obtain ⟨bp, op, hap⟩ := ob_
                      subst hap
                      have hqlo : -((xb.length : Int) + 1) < q.tmod ((xb.length : Int) + 1) := Int.lt_tmod_of_pos q (by omega)
                      have hqhi := Int.tmod_lt_of_pos q (show (0 : Int) < (xb.length : Int) + 1 by omega)
                      refine W.draw Try.follows h (fun w h => ?_)
                      refine WT.pure 0 rfl (by kernel_rfl) (fun w' => run_move) rfl rfl ?_
                      refine WT.pure 1 rfl (by kernel_rfl) (fun w' => run_move) rfl rfl ?_
                      refine WT.pure 2 rfl (by kernel_rfl) (fun w' => (run_indexAddr Try.underlying24 Try.sizeOf3 rfl rfl (by omega) (by omega))) rfl rfl ?_
                      refine WT.load1 3 rfl (by kernel_rfl) Try.isAgg3 rfl ((h.readsTo C1).elem (i := rank d.m (n : Int)) (vs := [.int .i64 q]) (by omega) (row_int hq) 0 _ rfl) rfl rfl ?_
                      refine WT.pure 4 rfl (by kernel_rfl) (fun w' => run_move) rfl rfl ?_
                      refine WT.pure 5 rfl (by kernel_rfl) (fun w' => (run_indexAddrArr Try.underlying38 Try.sizeOf22 rfl rfl (by omega) (by omega))) rfl rfl ?_
                      refine WT.load1 6 rfl (by kernel_rfl) Try.isAgg22 rfl ((h.cellsO (v := .slice (some ⟨b7, 0, none⟩) 8 8)).elem (i := n) (vs := [.slice xa xb.length xc]) (by omega) (row_v hx) 0 _ rfl) rfl rfl ?_
                      refine WT.pure 7 rfl (by kernel_rfl) (fun w' => (run_lenSlice Try.underlying22 rfl)) rfl rfl ?_
                      refine WT.pure 8 rfl (by kernel_rfl) (fun w' => (run_add rfl rfl (by omega) (by omega))) rfl rfl ?_
                      refine WT.pure 9 rfl (by kernel_rfl) (fun w' => (run_remT rfl rfl (by omega))) rfl rfl ?_
                      refine WT.pure 10 rfl (by kernel_rfl) (fun w' => run_assign) rfl rfl ?_
                      refine WT.done (by kernel_rfl) ?_
                      refine W.seq ?_
                      refine W.region ?_
                      refine WL.val run_move rfl rfl ?_
                      refine WL.val (run_lss rfl rfl) rfl rfl ?_
                      refine WL.nil ?_
                      refine W.condIf rfl (fun c49 => ?_) (fun c49 => ?_)
                      · skip
                        refine W.region ?_
                        refine WL.val run_move rfl rfl ?_
                        refine WL.val run_move rfl rfl ?_
                        refine WL.val (run_indexAddrArr Try.underlying38 Try.sizeOf22 rfl rfl (by omega) (by omega)) rfl rfl ?_
                        refine WL.val (run_load1 Try.isAgg22 rfl ((h.cellsO (v := .slice (some ⟨b7, 0, none⟩) 8 8)).elem (i := n) (vs := [.slice xa xb.length xc]) (by omega) (row_v hx) 0 _ rfl)) rfl rfl ?_
                        refine WL.val (run_lenSlice Try.underlying22 rfl) rfl rfl ?_
                        refine WL.val (run_add rfl rfl (by omega) (by omega)) rfl rfl ?_
                        refine WL.val (run_add rfl rfl (by omega) (by omega)) rfl rfl ?_
                        refine WL.val run_assign rfl rfl ?_
                        refine WL.nil ?_
                        -- to the cut, path FFLFLTTTT
                        have hp := pickP_neg hq c49
                        exact ⟨_, mkE_of ⟨rfl, rfl, rfl, rfl, rfl, rfl, (congrArg (Value.int .i64) (show (((pickP picks (rank d.m (n : Int)) xb.length) : Nat) : Int) = q.tmod ((xb.length : Int) + 1) + (xb.length : Int) + 1 by rw [hp]; omega)).symm, trivial⟩, h.to⟩
                      · skip
                        refine W.skip ?_
                        -- to the cut, path FFLFLTTTF
                        have hp := pickP_pos hq c49
                        exact ⟨_, mkE_of ⟨rfl, rfl, rfl, rfl, rfl, rfl, (congrArg (Value.int .i64) hp).symm, trivial⟩, h.to⟩
                    · skip
                      refine W.skip ?_
                      -- to the cut, path FFLFLTTF
                      have hp := pickP_none (len := xb.length) (show picks.length ≤ rank d.m (n : Int) by omega)
                      exact ⟨_, mkE_of ⟨rfl, rfl, rfl, rfl, rfl, rfl, (congrArg (Value.int .i64) hp).symm, trivial⟩, h.to⟩
                  · rintro env w ⟨jk, rfl, h⟩
                    refine W.seq ?_
                    refine W.region ?_
                    refine WL.val run_move rfl rfl ?_
                    refine WL.val (run_incN rfl rfl (by omega)) rfl rfl ?_
                    refine WL.val run_assign rfl rfl ?_
                    refine WL.nil ?_
                    refine W.seq ?_
                    refine W.region ?_
                    refine WL.val run_move rfl rfl ?_
                    refine WL.val (run_gtr rfl rfl) rfl rfl ?_
                    refine WL.nil ?_
                    refine W.condIf rfl (fun c55 => ?_) (fun c55 => ?_)
                    · skip
                      have ob_ : ∃ ub, xb[(pickP picks (rank d.m (n : Int)) xb.length) - 1]? = some ub := ⟨xb[(pickP picks (rank d.m (n : Int)) xb.length) - 1]'(by omega), by simp⟩
                      obtain ⟨ub, hub⟩ := ob_
                      have hxa := Own.addr (BigB.open hx (h.fetch (BigB ws))) (by show 0 < xb.length; omega)
                      obtain ⟨bx, ox, hxa⟩ := hxa
                      have hxa : xa = some ⟨bx, ox, none⟩ := hxa
                      subst hxa
                      refine W.region ?_
                      refine WL.val run_move rfl rfl ?_
                      refine WL.val (run_indexAddrArr Try.underlying38 Try.sizeOf22 rfl rfl (by omega) (by omega)) rfl rfl ?_
                      refine WL.val (run_load1 Try.isAgg22 rfl ((h.cellsO (v := .slice (some ⟨b7, 0, none⟩) 8 8)).elem (i := n) (vs := [.slice (some ⟨bx, ox, none⟩) xb.length xc]) (by omega) (row_v hx) 0 _ rfl)) rfl rfl ?_
                      refine WL.val run_move rfl rfl ?_
                      refine WL.val (run_subN (m := (pickP picks (rank d.m (n : Int)) xb.length)) (n := 1) rfl rfl (by omega) (by omega)) rfl rfl ?_
                      refine WL.val (run_indexAddr Try.underlying22 Try.sizeOf5 rfl rfl (by omega) (by omega)) rfl rfl ?_
                      refine WL.val (run_load1 Try.isAgg5 rfl ((On.cells (BigB.open hx (h.fetch (BigB ws))) 0 rfl).elem (i := (pickP picks (rank d.m (n : Int)) xb.length) - 1) (vs := [.int .u8 (ub.toNat : Int)]) (by show _ < xb.length; omega) (bytes_row hub) 0 _ rfl)) rfl rfl ?_
                      refine WL.val run_assign rfl rfl ?_
                      refine WL.nil ?_
                      -- to the cut, path FFLFLTTT
                      have hw : wantB xb (ordP d picks n xb) = ub := by rw [hPN]; unfold wantB; rw [if_neg (by omega), hub]; rfl
                      exact ⟨_, mkE_of ⟨rfl, rfl, rfl, (congrArg (fun z : Nat => Value.int .i64 (z : Int)) hr1).symm, rfl, (congrArg (fun z : UInt8 => Value.int .u8 (z.toNat : Int)) hw).symm, trivial⟩, h.to⟩
                    · skip
                      refine W.skip ?_
                      -- to the cut, path FFLFLTTF
                      have hw : wantB xb (ordP d picks n xb) = 0 := by rw [hPN]; unfold wantB; rw [if_pos (by omega)]
                      exact ⟨_, mkE_of ⟨rfl, rfl, rfl, (congrArg (fun z : Nat => Value.int .i64 (z : Int)) hr1).symm, rfl, (congrArg (fun z : UInt8 => Value.int .u8 (z.toNat : Int)) hw).symm, trivial⟩, h.to⟩
                · skip
                  refine W.skip ?_
                  -- to the cut, path FFLFLTF
                  have he : xb = [] := List.eq_nil_of_length_eq_zero (by omega)
                  have hw : wantB xb (ordP d picks n xb) = 0 := by rw [he]; rfl
                  have hr1 : rank d.m ((n + 1 : Nat) : Int) = rank d.m (n : Int) := by rw [hrs, hsome, he]; rfl
                  exact ⟨_, mkE_of ⟨rfl, rfl, rfl, (congrArg (fun z : Nat => Value.int .i64 (z : Int)) hr1).symm, rfl, (congrArg (fun z : UInt8 => Value.int .u8 (z.toNat : Int)) hw).symm, trivial⟩, h.to⟩
              · rintro env w ⟨jk, rfl, h⟩
                refine W.seq ?_
                refine W.region ?_
                refine WL.val run_move rfl rfl ?_
                refine WL.val run_move rfl rfl ?_
                refine WL.eff (eff_call Try.call21 (read_ok (k := (n : Int)) h)) rfl rfl ?_
                rintro _ w hv
                rcases hv with ⟨_, br, rfl, h⟩ | ⟨h0, _, _⟩
                rotate_left
                · exact absurd hread.2 h0
                refine WL.val run_move rfl rfl ?_
                refine WL.val (run_extract rfl rfl) rfl rfl ?_
                refine WL.val (run_extract rfl rfl) rfl rfl ?_
                refine WL.val run_assign rfl rfl ?_
                refine WL.val run_assign rfl rfl ?_
                refine WL.nil ?_
                refine W.seq ?_
                refine W.region ?_
                refine WL.val run_move rfl rfl ?_
                refine WL.val (run_neqF rfl rfl (rfl)) rfl rfl ?_
                refine WL.val run_move rfl rfl ?_
                refine WL.val run_move rfl rfl ?_
                refine WL.val (run_indexAddr Try.underlying22 Try.sizeOf5 rfl rfl (by decide) (by decide)) rfl rfl ?_
                refine WL.val (run_load1 Try.isAgg5 rfl ((h.cellsO (v := .slice (some ⟨br, 0, none⟩) 512 512)).elem (i := 0) (vs := [.int .u8 ((wantB xb (ordP d picks n xb)).toNat : Int)]) (by decide) (bytes_row hread.1) 0 _ rfl)) rfl rfl ?_
                refine WL.val run_move rfl rfl ?_
                refine WL.val (run_neqF rfl rfl (rfl)) rfl rfl ?_
                refine WL.val (run_pickF rfl) rfl rfl ?_
                refine WL.nil ?_
                refine W.condF rfl ?_
                refine W.skip ?_
                refine W.region ?_
                refine WL.val run_move rfl rfl ?_
                refine WL.val (run_add rfl rfl (by omega) (by omega)) rfl rfl ?_
                refine WL.val run_assign rfl rfl ?_
                refine WL.nil ?_
                -- round, path FFLFLT
                exact ⟨n + 1, ⟨by omega, _, mkE_of ⟨rfl, rfl, rfl, rfl, rfl, trivial⟩, h.to⟩, by show 8 - (n + 1) < 8 - n; omega⟩
            · skip
              refine W.exit ?_
              refine W.seq ?_
              refine W.region ?_
              refine WL.val run_assign rfl rfl ?_
              refine WL.nil ?_
              refine W.ret ?_
              refine bodyQ.r1 (v := .bool _) Try.results4 rfl ?_
              -- path FFLFLF
              exact ⟨rfl, h.to⟩

end Go.Proofs.Ytlahgihjjabgmaa
