/-
  The contracts of reservations. Lines of walks printed by a program of the prover's.
-/
import Derived.Test.YtbfdkalcpacaaaaResvKnown
import Derived.Test.YtbfdkalcpacaaaaResvModel
import Derived.Test.YtbfdkalcpacaaaaSlBits
namespace Go.Proofs.Ytbfdkalcpacaaaa
open Go Go.Sl Go.Sl.RsM
set_option linter.unusedVariables false
set_option linter.unusedSimpArgs false
set_option maxHeartbeats 1000000
set_option maxRecDepth 8000
variable {W0 w : World} {L F : List HProp}

theorem clears_ok {ho wh ty : Nat} (hho : (ho : Int) ≤ 255) (hwh : (wh : Int) ≤ 255) (hty : (ty : Int) ≤ 255) (h : On W0 F w) : Calls Try.prog 4 #[.int .u8 (ho : Int), .int .u8 (wh : Int), .int .u8 (ty : Int)] w (Ret fun v w' => v = .bool true ∧ On W0 F w') := by
  refine enter Try.func4 rfl Try.ntmps4 rfl ?_
  have hm8 : wh % 8 < 8 := Nat.mod_lt _ (by omega)
  refine W.seq ?_
  refine W.region ?_
  refine WL.val run_assign rfl rfl ?_
  refine WL.nil ?_
  refine W.seq ?_
  refine W.seq ?_
  refine W.region ?_
  refine WL.eff (eff_call Try.call7 (rknown_ok h)) rfl rfl ?_
  rintro _ w ⟨rfl, h⟩
  refine WL.val (run_not rfl) rfl rfl ?_
  refine WL.nil ?_
  refine W.condF rfl ?_
  refine W.skip ?_
  refine W.seq ?_
  refine W.region ?_
  refine WL.eff (eff_call Try.call8 (rnew_ok h)) rfl rfl ?_
  rintro _ w ⟨b, rfl, h⟩
  refine WL.val run_assign rfl rfl ?_
  refine WL.nil ?_
  refine W.seq ?_
  refine W.region ?_
  refine WL.val run_move rfl rfl ?_
  refine WL.val (run_andMod (m := wh) (n := 7) 3 rfl rfl (by show _ ≤ (255 : Int); omega) (by decide) rfl) rfl rfl ?_
  refine WL.val (run_convInt64 Try.underlying5 Try.underlying3 rfl (by omega) (by omega)) rfl rfl ?_
  refine WL.val run_assign rfl rfl ?_
  refine WL.nil ?_
  refine W.seq ?_
  refine W.region ?_
  refine WL.val run_assign rfl rfl ?_
  refine WL.nil ?_
  refine W.seq ?_
  refine W.seq ?_
  refine W.region ?_
  refine WL.val run_assign rfl rfl ?_
  refine WL.nil ?_
  refine W.block ?_
  refine W.loop (fun (i : Nat) env w => ∃ (j : Env) (t : Tb) (n : Nat), env = mkE j [(0, .int .u8 (ho : Int)), (2, .int .u8 (ty : Int)), (7, .pointer (some ⟨b, 0, none⟩)), (8, .int .i64 ((wh % 8 : Nat) : Int)), (9, .int .i64 ((n : Nat) : Int)), (10, .int .i64 (i : Int))] ∧ i ≤ 8 ∧ n ≤ i ∧ (wh % 8 < i → t.K (wh % 8) = 9) ∧ lvI t ((wh % 8 : Nat) : Int) 9 i n ∧ On W0 (blk b t.cells 69 :: F) w) (fun i => 8 - i) (0) ?_ ?_
  · exact ⟨_, newT, 0, mkE_of ⟨rfl, rfl, rfl, rfl, rfl, rfl, trivial⟩, by omega, by omega, (fun hh => by omega), ⟨rfl, rfl, fun _ _ => rfl, rfl⟩, h⟩
  · rintro i env w ⟨j, t, n, rfl, hi, hn, hkh, hlv, h⟩
    refine W.seq ?_
    refine W.seq ?_
    refine W.region ?_
    refine WL.val run_move rfl rfl ?_
    refine WL.val (run_lss rfl rfl) rfl rfl ?_
    refine WL.nil ?_
    refine W.condIf rfl (fun c13 => ?_) (fun c13 => ?_)
    · skip
      refine W.skip ?_
      refine W.seq ?_
      refine W.block ?_
      refine W.seq ?_
      refine W.region ?_
      refine WL.val run_move rfl rfl ?_
      refine WL.val run_move rfl rfl ?_
      refine WL.val (run_convIn Try.underlying3 Try.underlying33 rfl (by show (0 : Int) ≤ _; omega) (by show _ ≤ (18446744073709551615 : Int); omega)) rfl rfl ?_
      refine WL.val (run_shrN (m := ho) (j := i) rfl rfl (by show i ≤ 8; omega)) rfl rfl ?_
      refine WL.val (run_andMod (m := ho / 2 ^ i) (n := 1) 1 rfl rfl (by show _ ≤ (255 : Int); have := Nat.div_le_self ho (2 ^ i); omega) (by decide) rfl) rfl rfl ?_
      refine WL.dec (run_eql rfl rfl) rfl rfl (fun c34 => ?_) (fun c34 => ?_)
      · skip
        refine WL.val run_move rfl rfl ?_
        refine WL.skip rfl rfl ?_
        refine WL.skip rfl rfl ?_
        refine WL.skip rfl rfl ?_
        refine WL.val (run_pickT rfl) rfl rfl ?_
        refine WL.nil ?_
        refine W.condT rfl ?_
        refine W.seq ?_
        refine W.region ?_
        refine WL.val run_move rfl rfl ?_
        refine WL.val run_move rfl rfl ?_
        refine WL.eff (eff_call Try.call9 (reg_keep (t := t) (i := i) (key := 0) (fresh := 9) (by omega) (hlv.2.2.1 i (Nat.le_refl _)).symm (by decide) h)) rfl rfl ?_
        rintro _ w ⟨_, h⟩
        refine WL.nil ?_
        refine W.seq ?_
        refine W.region ?_
        refine WL.val run_move rfl rfl ?_
        refine WL.val run_move rfl rfl ?_
        refine WL.val (run_neq rfl rfl) rfl rfl ?_
        refine WL.nil ?_
        refine W.condIf rfl (fun c21 => ?_) (fun c21 => ?_)
        · skip
          refine W.region ?_
          refine WL.val run_move rfl rfl ?_
          refine WL.val (run_incN rfl rfl (by omega)) rfl rfl ?_
          refine WL.val run_assign rfl rfl ?_
          refine WL.nil ?_
          refine W.region ?_
          refine WL.val run_move rfl rfl ?_
          refine WL.val (run_incN rfl rfl (by omega)) rfl rfl ?_
          refine WL.val run_assign rfl rfl ?_
          refine WL.nil ?_
          -- round, path LTTT
          exact ⟨i + 1, ⟨_, t.inc.put i 9, n + 1, mkE_of ⟨rfl, rfl, rfl, rfl, rfl, rfl, trivial⟩, by omega, by omega, (fun hh => by show (if wh % 8 = i then (9 : Int) else t.K (wh % 8)) = 9; rw [if_neg (by omega)]; exact hkh (by omega)), lv_more hlv (by decide) (by omega), h⟩, by show 8 - (i + 1) < 8 - i; omega⟩
        · skip
          refine W.skip ?_
          refine W.region ?_
          refine WL.val run_move rfl rfl ?_
          refine WL.val (run_incN rfl rfl (by omega)) rfl rfl ?_
          refine WL.val run_assign rfl rfl ?_
          refine WL.nil ?_
          -- round, path LTTF
          exact ⟨i + 1, ⟨_, t.inc.put i 9, n, mkE_of ⟨rfl, rfl, rfl, rfl, rfl, rfl, trivial⟩, by omega, by omega, (fun _ => by show (if wh % 8 = i then (9 : Int) else _) = 9; rw [if_pos (by omega)]), lv_self hlv (by omega), h⟩, by show 8 - (i + 1) < 8 - i; omega⟩
      · skip
        refine WL.val run_move rfl rfl ?_
        refine WL.val run_move rfl rfl ?_
        refine WL.val run_move rfl rfl ?_
        refine WL.val (run_eql rfl rfl) rfl rfl ?_
        refine WL.val (run_pickF rfl) rfl rfl ?_
        refine WL.nil ?_
        refine W.condIf rfl (fun c18 => ?_) (fun c18 => ?_)
        · skip
          refine W.seq ?_
          refine W.region ?_
          refine WL.val run_move rfl rfl ?_
          refine WL.val run_move rfl rfl ?_
          refine WL.eff (eff_call Try.call9 (reg_keep (t := t) (i := i) (key := 0) (fresh := 9) (by omega) (hlv.2.2.1 i (Nat.le_refl _)).symm (by decide) h)) rfl rfl ?_
          rintro _ w ⟨_, h⟩
          refine WL.nil ?_
          refine W.seq ?_
          refine W.region ?_
          refine WL.val run_move rfl rfl ?_
          refine WL.val run_move rfl rfl ?_
          refine WL.val (run_neq rfl rfl) rfl rfl ?_
          refine WL.nil ?_
          refine W.condIf rfl (fun c21 => ?_) (fun c21 => ?_)
          · skip
            refine W.region ?_
            refine WL.val run_move rfl rfl ?_
            refine WL.val (run_incN rfl rfl (by omega)) rfl rfl ?_
            refine WL.val run_assign rfl rfl ?_
            refine WL.nil ?_
            refine W.region ?_
            refine WL.val run_move rfl rfl ?_
            refine WL.val (run_incN rfl rfl (by omega)) rfl rfl ?_
            refine WL.val run_assign rfl rfl ?_
            refine WL.nil ?_
            -- round, path LTFTT
            exfalso; omega
          · skip
            refine W.skip ?_
            refine W.region ?_
            refine WL.val run_move rfl rfl ?_
            refine WL.val (run_incN rfl rfl (by omega)) rfl rfl ?_
            refine WL.val run_assign rfl rfl ?_
            refine WL.nil ?_
            -- round, path LTFTF
            exact ⟨i + 1, ⟨_, t.inc.put i 9, n, mkE_of ⟨rfl, rfl, rfl, rfl, rfl, rfl, trivial⟩, by omega, by omega, (fun _ => by show (if wh % 8 = i then (9 : Int) else _) = 9; rw [if_pos (by omega)]), lv_self hlv (by omega), h⟩, by show 8 - (i + 1) < 8 - i; omega⟩
        · skip
          refine W.skip ?_
          refine W.region ?_
          refine WL.val run_move rfl rfl ?_
          refine WL.val (run_incN rfl rfl (by omega)) rfl rfl ?_
          refine WL.val run_assign rfl rfl ?_
          refine WL.nil ?_
          -- round, path LTFF
          exact ⟨i + 1, ⟨_, t, n, mkE_of ⟨rfl, rfl, rfl, rfl, rfl, rfl, trivial⟩, by omega, by omega, (fun hh => hkh (by omega)), lv_skip hlv, h⟩, by show 8 - (i + 1) < 8 - i; omega⟩
    · skip
      refine W.exit ?_
      refine W.seq ?_
      have ob_ : i = 8 := by omega
      obtain rfl := ob_
      have hkh := hkh hm8
      have hok : okM t ((wh % 8 : Nat) : Int) 9 := ⟨_, rfl, hm8, by rw [hkh]; decide, hkh⟩
      refine W.region ?_
      refine WL.val run_move rfl rfl ?_
      refine WL.val run_move rfl rfl ?_
      refine WL.eff (eff_mkRow (out := [.int .i64 _, .int .i64 _, .int .i64 _, .int .i64 _]) h Try.underlying25 Try.sizeOf3 Try.zeroValue3 rfl (by decide) rfl rfl rfl) rfl rfl ?_
      rintro _ w ⟨b50, rfl, h⟩
      refine WL.val run_move rfl rfl ?_
      refine WL.val (run_andMod (m := ty) (n := 3) 2 rfl rfl (by show _ ≤ (255 : Int); omega) (by decide) rfl) rfl rfl ?_
      refine WL.val (run_indexAddr Try.underlying25 Try.sizeOf3 rfl rfl (by omega) (by omega)) rfl rfl ?_
      refine WL.val (run_load1 Try.isAgg3 rfl ((h.cellsO (v := .slice (some ⟨b50, 0, none⟩) 4 4)).elem (i := ty % 4) (vs := [.int .i64 (yT ty)]) (by omega) (yT_row ty) 0 _ rfl)) rfl rfl ?_
      refine WL.eff (eff_call Try.call10 (res_take (t := t) (hh := ((wh % 8 : Nat) : Int)) (key := 9) (typ := yT ty) hok (yT_typed ty) hlv.1 (h.fetch (blk b t.cells 69)))) rfl rfl ?_
      rintro _ w ⟨rfl, h⟩
      refine WL.nil ?_
      refine W.seq ?_
      refine W.region ?_
      refine WL.val run_move rfl rfl ?_
      refine WL.val run_move rfl rfl ?_
      refine WL.eff (eff_call Try.call14 (clear_ok (t := (t.take ((wh % 8 : Nat) : Int) (yT ty))) (hh := ((wh % 8 : Nat) : Int)) (key := 9) (h.fetch (blk b (t.take ((wh % 8 : Nat) : Int) (yT ty)).cells 69)))) rfl rfl ?_
      rintro _ w hv
      rcases hv with ⟨_, a, hv, h⟩ | ⟨hno, _⟩
      rotate_left
      · exact (hno hok).elim
      have ob_ : ∃ l, l = hostsN t.K ((wh % 8 : Nat) : Int) (fun _ => true) 8 := ⟨_, rfl⟩
      obtain ⟨l, hl⟩ := ob_
      have hv2 : _ = Value.tuple #[rep 0 0 0, .slice a (hostsN t.K ((wh % 8 : Nat) : Int) (fun _ => true) 8).length (hostsN t.K ((wh % 8 : Nat) : Int) (fun _ => true) 8).length] := hv
      rw [← hl] at hv2
      subst hv2
      have h : On W0 (Own 2 (.slice a (hostsN t.K ((wh % 8 : Nat) : Int) (fun _ => true) 8).length (hostsN t.K ((wh % 8 : Nat) : Int) (fun _ => true) 8).length) (hostsN t.K ((wh % 8 : Nat) : Int) (fun _ => true) 8).length (notesV 10755 (hostsN t.K ((wh % 8 : Nat) : Int) (fun _ => true) 8)) :: blk b ((t.take ((wh % 8 : Nat) : Int) (yT ty)).cleared).cells 69 :: _) w := h
      rw [← hl] at h
      have hln : l.length = n := by rw [hl, hlv.2.2.2]
      have hll : l.length ≤ 8 := by rw [hl]; exact hostsN_len ..
      have hlm : ∀ q, q ∈ l → (q : Int) ≠ ((wh % 8 : Nat) : Int) := fun q hq => (hostsN_mem.1 (by rw [hl] at hq; exact hq)).2.1
      refine WL.val run_move rfl rfl ?_
      refine WL.val (run_extract rfl rfl) rfl rfl ?_
      refine WL.val (run_extract rfl rfl) rfl rfl ?_
      refine WL.eff (eff_alloc h Try.zeroValue28 rfl) rfl rfl ?_
      rintro _ w ⟨b11, rfl, h⟩
      refine WL.eff (eff_storeN (vs := [.int .i64 _, .int .i64 _, .int .i64 _, .slice _ _ _, .int .i64 _]) h Try.sizeOf28 rfl rfl rfl rfl rfl (fun k _ _ => free0 k)) rfl rfl ?_
      rintro _ w h
      try simp only [splice, List.take_zero, List.take_succ_cons, List.take_nil, List.drop_succ_cons, List.drop_zero, List.drop_nil, List.nil_append, List.cons_append, List.append_nil, List.length_cons, List.length_nil, Nat.zero_add, Nat.reduceAdd] at h
      refine WL.val run_assign rfl rfl ?_
      refine WL.nil ?_
      refine W.seq ?_
      refine W.region ?_
      refine WL.val run_move rfl rfl ?_
      refine WL.eff (eff_call Try.call12 (holder_ok (t := ((t.take ((wh % 8 : Nat) : Int) (yT ty)).cleared)) (h.fetch (blk b ((t.take ((wh % 8 : Nat) : Int) (yT ty)).cleared).cells 69)))) rfl rfl ?_
      rintro _ w ⟨rfl, h⟩
      refine WL.val run_move rfl rfl ?_
      refine WL.val (run_extract rfl rfl) rfl rfl ?_
      refine WL.val (run_extract rfl rfl) rfl rfl ?_
      refine WL.val run_assign rfl rfl ?_
      refine WL.val run_assign rfl rfl ?_
      refine WL.nil ?_
      refine W.seq ?_
      refine W.seq ?_
      refine W.region ?_
      refine WL.val (run_fieldAddr 0 Try.underlying28 rfl Try.sizeOf3 rfl rfl) rfl rfl ?_
      refine WL.val (run_load1 Try.isAgg3 rfl (h.cellB rfl)) rfl rfl ?_
      refine WL.val (run_neqF rfl rfl (rfl)) rfl rfl ?_
      refine WL.val run_move rfl rfl ?_
      refine WL.val run_move rfl rfl ?_
      refine WL.val (run_lenSlice Try.underlying29 rfl) rfl rfl ?_
      refine WL.val run_move rfl rfl ?_
      refine WL.val (run_neqF rfl rfl (by show ((l.length : Nat) : Int) = (n : Int); rw [hln])) rfl rfl ?_
      refine WL.val (run_pickF rfl) rfl rfl ?_
      refine WL.val run_move rfl rfl ?_
      refine WL.val run_move rfl rfl ?_
      refine WL.val (run_neqF rfl rfl (rfl)) rfl rfl ?_
      refine WL.val (run_pickF rfl) rfl rfl ?_
      refine WL.val run_move rfl rfl ?_
      refine WL.val run_move rfl rfl ?_
      refine WL.val (run_neqF rfl rfl (rfl)) rfl rfl ?_
      refine WL.val (run_pickF rfl) rfl rfl ?_
      refine WL.val run_move rfl rfl ?_
      refine WL.val run_move rfl rfl ?_
      refine WL.eff (eff_call Try.call15 (keys_ok (t := ((t.take ((wh % 8 : Nat) : Int) (yT ty)).cleared)) (h.fetch (blk b ((t.take ((wh % 8 : Nat) : Int) (yT ty)).cleared).cells 69)))) rfl rfl ?_
      rintro _ w ⟨ak, nk, rfl, hz, h⟩
      have hnk : nk = 0 := hz.2 fun _ _ => rfl
      subst hnk
      refine WL.val (run_lenSlice Try.underlying43 rfl) rfl rfl ?_
      refine WL.val (run_neqF rfl rfl (rfl)) rfl rfl ?_
      refine WL.val (run_pickF rfl) rfl rfl ?_
      refine WL.nil ?_
      refine W.condF rfl ?_
      refine W.skip ?_
      refine W.seq ?_
      refine W.seq ?_
      refine W.region ?_
      refine WL.val run_assign rfl rfl ?_
      refine WL.nil ?_
      refine W.block ?_
      refine W.loop (fun (k : Nat) env w => ∃ j, env = mkE j [(7, .pointer (some ⟨b, 0, none⟩)), (8, .int .i64 ((wh % 8 : Nat) : Int)), (12, .slice a l.length l.length), (15, .int .i64 (k : Int))] ∧ k ≤ l.length ∧ On W0 (blk b ((t.take ((wh % 8 : Nat) : Int) (yT ty)).cleared).cells 69 :: Own 2 (.slice a l.length l.length) l.length (notesV 10755 l) :: F) w) (fun k => l.length - k) (0) ?_ ?_
      · exact ⟨_, mkE_of ⟨rfl, rfl, rfl, rfl, trivial⟩, Nat.zero_le _, h.to⟩
      · rintro k env w ⟨j, rfl, hk, h⟩
        refine W.seq ?_
        refine W.seq ?_
        refine W.region ?_
        refine WL.val run_move rfl rfl ?_
        refine WL.val run_move rfl rfl ?_
        refine WL.val (run_lenSlice Try.underlying29 rfl) rfl rfl ?_
        refine WL.val (run_lss rfl rfl) rfl rfl ?_
        refine WL.nil ?_
        refine W.condIf rfl (fun c38 => ?_) (fun c38 => ?_)
        · skip
          refine W.skip ?_
          refine W.seq ?_
          refine W.block ?_
          refine W.seq ?_
          have hkl : k < l.length := by omega
          have ob_ : ∃ q, l[k]? = some q := ⟨l[k], by simp⟩
          obtain ⟨q, hq⟩ := ob_
          have hq0 := hlm q (List.mem_of_getElem? hq)
          have haa := Own.addr (h.fetch (Own 2 (.slice a l.length l.length) l.length (notesV 10755 l))) (by omega)
          obtain ⟨bl, ol, rfl⟩ := haa
          refine W.region ?_
          refine WL.val run_move rfl rfl ?_
          refine WL.val run_move rfl rfl ?_
          refine WL.val (run_indexAddr Try.underlying29 Try.sizeOf40 rfl rfl (by omega) (by omega)) rfl rfl ?_
          refine WL.val (run_fieldAddr 1 Try.underlying40 rfl Try.sizeOf3 rfl rfl) rfl rfl ?_
          refine WL.val (run_load1 Try.isAgg3 rfl ((h.cellsO (v := .slice (some ⟨bl, ol, none⟩) l.length l.length)).elem (i := k) (vs := noteV 10755 q) hkl (drop_flatMap (noteV 10755) 2 (noteV_length 10755) l _ _ hq) 1 _ rfl)) rfl rfl ?_
          refine WL.val (run_neqF rfl rfl (rfl)) rfl rfl ?_
          refine WL.val run_move rfl rfl ?_
          refine WL.val run_move rfl rfl ?_
          refine WL.val run_move rfl rfl ?_
          refine WL.val (run_indexAddr Try.underlying29 Try.sizeOf40 rfl rfl (by omega) (by omega)) rfl rfl ?_
          refine WL.val (run_fieldAddr 0 Try.underlying40 rfl Try.sizeOf3 rfl rfl) rfl rfl ?_
          refine WL.val (run_load1 Try.isAgg3 rfl ((h.cellsO (v := .slice (some ⟨bl, ol, none⟩) l.length l.length)).elem (i := k) (vs := noteV 10755 q) hkl (drop_flatMap (noteV 10755) 2 (noteV_length 10755) l _ _ hq) 0 _ rfl)) rfl rfl ?_
          refine WL.val run_move rfl rfl ?_
          refine WL.val (run_eqlF rfl rfl (hq0)) rfl rfl ?_
          refine WL.val (run_pickF rfl) rfl rfl ?_
          refine WL.nil ?_
          refine W.condF rfl ?_
          refine W.skip ?_
          refine W.region ?_
          refine WL.val run_move rfl rfl ?_
          refine WL.val (run_incN rfl rfl (by omega)) rfl rfl ?_
          refine WL.val run_assign rfl rfl ?_
          refine WL.nil ?_
          -- round, path LFLT
          exact ⟨k + 1, ⟨_, mkE_of ⟨rfl, rfl, rfl, rfl, trivial⟩, by omega, h⟩, by show l.length - (k + 1) < l.length - k; omega⟩
        · skip
          refine W.exit ?_
          refine W.seq ?_
          refine W.region ?_
          refine WL.val run_move rfl rfl ?_
          refine WL.val run_move rfl rfl ?_
          refine WL.eff (eff_call Try.call14 (clear_ok (t := ((t.take ((wh % 8 : Nat) : Int) (yT ty)).cleared)) (hh := ((wh % 8 : Nat) : Int)) (key := 9) (h.fetch (blk b ((t.take ((wh % 8 : Nat) : Int) (yT ty)).cleared).cells 69)))) rfl rfl ?_
          rintro _ w hv
          rcases hv with ⟨⟨i, _, _, h2, _⟩, _⟩ | ⟨_, s, k, c, rfl, hs24, h⟩
          · exact (h2 rfl).elim
          have hs := hs24 (by omega) (by omega)
          subst hs
          refine WL.val run_move rfl rfl ?_
          refine WL.val (run_extract rfl rfl) rfl rfl ?_
          refine WL.val (run_extract rfl rfl) rfl rfl ?_
          refine WL.eff (eff_alloc h Try.zeroValue28 rfl) rfl rfl ?_
          rintro _ w ⟨b16, rfl, h⟩
          refine WL.eff (eff_storeN (vs := [.int .i64 _, .int .i64 _, .int .i64 _, .slice _ _ _, .int .i64 _]) h Try.sizeOf28 rfl rfl rfl rfl rfl (fun k _ _ => free0 k)) rfl rfl ?_
          rintro _ w h
          try simp only [splice, List.take_zero, List.take_succ_cons, List.take_nil, List.drop_succ_cons, List.drop_zero, List.drop_nil, List.nil_append, List.cons_append, List.append_nil, List.length_cons, List.length_nil, Nat.zero_add, Nat.reduceAdd] at h
          refine WL.val run_assign rfl rfl ?_
          refine WL.nil ?_
          refine W.seq ?_
          refine W.region ?_
          refine WL.val run_move rfl rfl ?_
          refine WL.val run_move rfl rfl ?_
          refine WL.eff (eff_call Try.call10 (res_conf (t := ((t.take ((wh % 8 : Nat) : Int) (yT ty)).cleared)) (hh := ((wh % 8 : Nat) : Int)) (key := 9) (typ := 1) (.inr ⟨(fun hh => by obtain ⟨i, _, _, h2, _⟩ := hh; exact h2 rfl), by omega, by omega⟩) (h.fetch (blk b ((t.take ((wh % 8 : Nat) : Int) (yT ty)).cleared).cells 69)))) rfl rfl ?_
          rintro _ w ⟨⟨k2, c2, rfl⟩, h⟩
          refine WL.eff (eff_alloc h Try.zeroValue28 rfl) rfl rfl ?_
          rintro _ w ⟨b18, rfl, h⟩
          refine WL.eff (eff_storeN (vs := [.int .i64 _, .int .i64 _, .int .i64 _, .slice _ _ _, .int .i64 _]) h Try.sizeOf28 rfl rfl rfl rfl rfl (fun k _ _ => free0 k)) rfl rfl ?_
          rintro _ w h
          try simp only [splice, List.take_zero, List.take_succ_cons, List.take_nil, List.drop_succ_cons, List.drop_zero, List.drop_nil, List.nil_append, List.cons_append, List.append_nil, List.length_cons, List.length_nil, Nat.zero_add, Nat.reduceAdd] at h
          refine WL.nil ?_
          refine W.seq ?_
          refine W.region ?_
          refine WL.val (run_fieldAddr 0 Try.underlying28 rfl Try.sizeOf3 rfl rfl) rfl rfl ?_
          refine WL.val (run_load1 Try.isAgg3 rfl (h.cellB rfl)) rfl rfl ?_
          refine WL.val (run_eqlT rfl rfl (rfl)) rfl rfl ?_
          refine WL.val run_move rfl rfl ?_
          refine WL.val (run_fieldAddr 0 Try.underlying28 rfl Try.sizeOf3 rfl rfl) rfl rfl ?_
          refine WL.val (run_load1 Try.isAgg3 rfl (h.cellB rfl)) rfl rfl ?_
          refine WL.val (run_eqlT rfl rfl (rfl)) rfl rfl ?_
          refine WL.val (run_pickT rfl) rfl rfl ?_
          refine WL.val run_assign rfl rfl ?_
          refine WL.nil ?_
          refine W.ret ?_
          refine bodyQ.r1 (v := .bool _) Try.results4 rfl ?_
          -- path LFLF
          exact ⟨rfl, h.to⟩

end Go.Proofs.Ytbfdkalcpacaaaa
