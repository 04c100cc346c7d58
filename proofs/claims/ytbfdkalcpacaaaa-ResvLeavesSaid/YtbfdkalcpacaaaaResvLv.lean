/-
  The contracts of reservations. Lines of walks printed by a program of the prover's.
-/
import Derived.Test.YtbfdkalcpacaaaaResvKnown
import Derived.Test.YtbfdkalcpacaaaaResvModel
import Derived.Test.YtbfdkalcpacaaaaSlBits
namespace Go.Proofs.Ytbfdkalcpacaaaa
open Go Go.Sl Go.Sl.RsM
set_option linter.unusedVariables false
set_option linter.unusedSimpArgs false
set_option maxHeartbeats 1000000
set_option maxRecDepth 8000
variable {W0 w : World} {L F : List HProp}

theorem leaves_ok {ty ot : Nat} {rel : Bool} (hty : (ty : Int) ≤ 255) (hot : (ot : Int) ≤ 255) (h : On W0 F w) : Calls Try.prog 3 #[.int .u8 (ty : Int), .int .u8 (ot : Int), .bool rel] w (Ret fun v w' => v = .bool true ∧ On W0 F w') := by
  refine enter Try.func3 rfl Try.ntmps3 rfl ?_
  skip
  refine W.seq ?_
  refine W.region ?_
  refine WL.val run_assign rfl rfl ?_
  refine WL.nil ?_
  refine W.seq ?_
  refine W.seq ?_
  refine W.region ?_
  refine WL.eff (eff_call Try.call7 (rknown_ok h)) rfl rfl ?_
  rintro _ w ⟨rfl, h⟩
  refine WL.val (run_not rfl) rfl rfl ?_
  refine WL.nil ?_
  refine W.condF rfl ?_
  refine W.skip ?_
  refine W.seq ?_
  refine W.region ?_
  refine WL.eff (eff_call Try.call8 (rnew_ok h)) rfl rfl ?_
  rintro _ w ⟨b, rfl, h⟩
  refine WL.val run_assign rfl rfl ?_
  refine WL.nil ?_
  refine W.seq ?_
  refine W.region ?_
  refine WL.eff (eff_mkRow (out := [.int .i64 _, .int .i64 _, .int .i64 _, .int .i64 _]) h Try.underlying25 Try.sizeOf3 Try.zeroValue3 rfl (by decide) rfl rfl rfl) rfl rfl ?_
  rintro _ w ⟨b19, rfl, h⟩
  refine WL.val run_move rfl rfl ?_
  refine WL.val (run_andMod (m := ty) (n := 3) 2 rfl rfl (by show _ ≤ (255 : Int); omega) (by decide) rfl) rfl rfl ?_
  refine WL.val (run_indexAddr Try.underlying25 Try.sizeOf3 rfl rfl (by omega) (by omega)) rfl rfl ?_
  refine WL.val (run_load1 Try.isAgg3 rfl ((h.cellsO (v := .slice (some ⟨b19, 0, none⟩) 4 4)).elem (i := ty % 4) (vs := [.int .i64 (yT ty)]) (by omega) (yT_row ty) 0 _ rfl)) rfl rfl ?_
  refine WL.val run_assign rfl rfl ?_
  refine WL.nil ?_
  refine W.seq ?_
  refine W.region ?_
  refine WL.val run_move rfl rfl ?_
  refine WL.eff (eff_call Try.call9 (reg_keep (t := newT) (i := 0) (key := 0) (fresh := 1) (by decide) rfl (by decide) (h.fetch (blk b newT.cells 69)))) rfl rfl ?_
  rintro _ w ⟨_, h⟩
  refine WL.nil ?_
  refine W.seq ?_
  refine W.region ?_
  refine WL.val run_assign rfl rfl ?_
  refine WL.nil ?_
  refine W.seq ?_
  refine W.seq ?_
  refine W.region ?_
  refine WL.val run_assign rfl rfl ?_
  refine WL.nil ?_
  refine W.block ?_
  refine W.loop (fun (i : Nat) env w => ∃ j t n, env = mkE j [(1, .int .u8 (ot : Int)), (2, .bool rel), (7, .pointer (some ⟨b, 0, none⟩)), (8, .int .i64 (yT ty)), (9, .int .i64 ((n : Nat) : Int)), (10, .int .i64 (i : Int))] ∧ 1 ≤ i ∧ i ≤ 8 ∧ n ≤ i ∧ t.K 0 = 1 ∧ lvI t 0 1 i n ∧ On W0 (blk b t.cells 69 :: F) w) (fun i => 8 - i) (1) ?_ ?_
  · exact ⟨_, newT.inc.put 0 1, 0, mkE_of ⟨rfl, rfl, rfl, rfl, rfl, rfl, trivial⟩, by omega, by omega, by omega, rfl, lv_start, h.to⟩
  · rintro i env w ⟨j, t, n, rfl, hi1, hi, hn, hK0, hlv, h⟩
    refine W.seq ?_
    refine W.seq ?_
    refine W.region ?_
    refine WL.val run_move rfl rfl ?_
    refine WL.val (run_lss rfl rfl) rfl rfl ?_
    refine WL.nil ?_
    refine W.condIf rfl (fun c14 => ?_) (fun c14 => ?_)
    · skip
      refine W.skip ?_
      refine W.seq ?_
      refine W.block ?_
      refine W.seq ?_
      refine W.region ?_
      refine WL.val run_move rfl rfl ?_
      refine WL.val run_move rfl rfl ?_
      refine WL.val (run_convIn Try.underlying3 Try.underlying33 rfl (by show (0 : Int) ≤ _; omega) (by show _ ≤ (18446744073709551615 : Int); omega)) rfl rfl ?_
      refine WL.val (run_shrN (m := ot) (j := i) rfl rfl (by show i ≤ 8; omega)) rfl rfl ?_
      refine WL.val (run_andMod (m := ot / 2 ^ i) (n := 1) 1 rfl rfl (by show _ ≤ (255 : Int); have := Nat.div_le_self ot (2 ^ i); omega) (by decide) rfl) rfl rfl ?_
      refine WL.val (run_eql rfl rfl) rfl rfl ?_
      refine WL.nil ?_
      refine W.condIf rfl (fun c19 => ?_) (fun c19 => ?_)
      · skip
        refine W.seq ?_
        refine W.region ?_
        refine WL.val run_move rfl rfl ?_
        refine WL.val run_move rfl rfl ?_
        refine WL.eff (eff_call Try.call9 (reg_keep (t := t) (i := i) (key := 0) (fresh := 2) (by omega) (hlv.2.2.1 i (Nat.le_refl _)).symm (by decide) h)) rfl rfl ?_
        rintro _ w ⟨_, h⟩
        refine WL.nil ?_
        refine W.region ?_
        refine WL.val run_move rfl rfl ?_
        refine WL.val (run_incN rfl rfl (by omega)) rfl rfl ?_
        refine WL.val run_assign rfl rfl ?_
        refine WL.nil ?_
        refine W.region ?_
        refine WL.val run_move rfl rfl ?_
        refine WL.val (run_incN rfl rfl (by omega)) rfl rfl ?_
        refine WL.val run_assign rfl rfl ?_
        refine WL.nil ?_
        -- round, path LTT
        exact ⟨i + 1, ⟨_, t.inc.put i 2, n + 1, mkE_of ⟨rfl, rfl, rfl, rfl, rfl, rfl, trivial⟩, by omega, by omega, by omega, (by show (if 0 = i then (2 : Int) else t.K 0) = 1; rw [if_neg (by omega)]; exact hK0), lv_more hlv (by decide) (by omega), h⟩, by show 8 - (i + 1) < 8 - i; omega⟩
      · skip
        refine W.skip ?_
        refine W.region ?_
        refine WL.val run_move rfl rfl ?_
        refine WL.val (run_incN rfl rfl (by omega)) rfl rfl ?_
        refine WL.val run_assign rfl rfl ?_
        refine WL.nil ?_
        -- round, path LTF
        exact ⟨i + 1, ⟨_, t, n, mkE_of ⟨rfl, rfl, rfl, rfl, rfl, rfl, trivial⟩, by omega, by omega, by omega, hK0, lv_skip hlv, h⟩, by show 8 - (i + 1) < 8 - i; omega⟩
    · skip
      refine W.exit ?_
      refine W.seq ?_
      have ob_ : i = 8 := by omega
      obtain rfl := ob_
      have hok : okM t 0 1 := ⟨0, rfl, by omega, by rw [hK0]; decide, hK0⟩
      refine W.region ?_
      refine WL.val run_move rfl rfl ?_
      refine WL.val run_move rfl rfl ?_
      refine WL.eff (eff_call Try.call10 (res_take (t := t) (hh := 0) (key := 1) (typ := yT ty) hok (yT_typed ty) hlv.1 h)) rfl rfl ?_
      rintro _ w ⟨rfl, h⟩
      refine WL.nil ?_
      refine W.seq ?_
      refine W.region ?_
      refine WL.eff (eff_alloc h Try.zeroValue28 rfl) rfl rfl ?_
      rintro _ w ⟨b11, rfl, h⟩
      refine WL.nil ?_
      refine W.seq ?_
      refine W.region ?_
      refine WL.val run_assign rfl rfl ?_
      refine WL.nil ?_
      refine W.cut (fun env w => ∃ (j : Env) (t4 : Tb) (l : List Nat) (a : Option Addr) (c : Nat), env = mkE j [(2, .bool rel), (7, .pointer (some ⟨b, 0, none⟩)), (8, .int .i64 (yT ty)), (9, .int .i64 (n : Int)), (11, .pointer (some ⟨b11, 0, none⟩)), (12, .slice a l.length c)] ∧ t4.hold = -1 ∧ ((t4.K 0 ≠ 0) = (rel = true)) ∧ l = (t.take 0 (yT ty)).told 0 ∧ On W0 (blk b11 [.int .i64 0, .int .i64 0, .int .i64 0, .slice none 0 0, .int .i64 0] 28 :: Own 2 (.slice a l.length c) l.length (notesV 10756 l) :: blk b t4.cells 69 :: F) w) ?_ ?_
      · skip
        refine W.seq ?_
        refine W.region ?_
        refine WL.val run_move rfl rfl ?_
        refine WL.nil ?_
        refine W.condB rfl (fun c28 => ?_) (fun c28 => ?_)
        · skip
          refine W.region ?_
          refine WL.val run_move rfl rfl ?_
          refine WL.val run_move rfl rfl ?_
          refine WL.eff (eff_call Try.call11 (release_ok (t := (t.take 0 (yT ty))) (hh := 0) (key := 1) (typ := yT ty) (h.fetch (blk b (t.take 0 (yT ty)).cells 69)))) rfl rfl ?_
          rintro _ w hv
          rcases hv with ⟨_, _, _, _, a, rfl, h⟩ | ⟨hno, _⟩
          rotate_left
          · exact (hno ⟨hok, yT_typed ty, rfl, rfl⟩).elim
          refine WL.val run_move rfl rfl ?_
          refine WL.val (run_extract rfl rfl) rfl rfl ?_
          refine WL.val (run_extract rfl rfl) rfl rfl ?_
          refine WL.eff (eff_storeN (vs := [.int .i64 _, .int .i64 _, .int .i64 _, .slice _ _ _, .int .i64 _]) h Try.sizeOf28 rfl rfl rfl rfl rfl (fun k _ _ => free0 k)) rfl rfl ?_
          rintro _ w h
          try simp only [splice, List.take_zero, List.take_succ_cons, List.take_nil, List.drop_succ_cons, List.drop_zero, List.drop_nil, List.nil_append, List.cons_append, List.append_nil, List.length_cons, List.length_nil, Nat.zero_add, Nat.reduceAdd] at h
          refine WL.val run_assign rfl rfl ?_
          refine WL.nil ?_
          -- to the cut, path LFT
          exact ⟨_, (t.take 0 (yT ty)).freed, (t.take 0 (yT ty)).told 0, a, ((t.take 0 (yT ty)).told 0).length, mkE_of ⟨(by show Value.bool rel = Value.bool rel; rfl), rfl, rfl, rfl, rfl, rfl, trivial⟩, rfl, (by rw [c28]; have : (t.take 0 (yT ty)).freed.K 0 = 1 := hK0; simp [this]), rfl, h.to⟩
        · skip
          refine W.region ?_
          refine WL.val run_move rfl rfl ?_
          refine WL.eff (eff_call Try.call9 (register_ok (t := (t.take 0 (yT ty))) (hh := 0) (key := 1) (fresh := 0) (ign := false) (h.fetch (blk b (t.take 0 (yT ty)).cells 69)))) rfl rfl ?_
          rintro _ w hv
          rcases hv with ⟨i0, hi0, _, _, a, c, hv, h⟩ | ⟨hno, _⟩
          rotate_left
          · exact (hno ⟨0, rfl, by omega, .inr hK0.symm⟩).elim
          have hi00 : 0 = i0 := Int.ofNat.inj hi0
          subst hi00
          have e : regO (t.take 0 (yT ty)) 0 0 = ((t.take 0 (yT ty)).told 0, (t.take 0 (yT ty)).inc.freed.put 0 0) := by unfold regO; rw [if_pos ⟨rfl, rfl⟩]; rfl
          rw [e] at hv h
          subst hv
          refine WL.val run_move rfl rfl ?_
          refine WL.val (run_extract rfl rfl) rfl rfl ?_
          refine WL.val (run_extract rfl rfl) rfl rfl ?_
          refine WL.eff (eff_storeN (vs := [.int .i64 _, .int .i64 _, .int .i64 _, .slice _ _ _, .int .i64 _]) h Try.sizeOf28 rfl rfl rfl rfl rfl (fun k _ _ => free0 k)) rfl rfl ?_
          rintro _ w h
          try simp only [splice, List.take_zero, List.take_succ_cons, List.take_nil, List.drop_succ_cons, List.drop_zero, List.drop_nil, List.nil_append, List.cons_append, List.append_nil, List.length_cons, List.length_nil, Nat.zero_add, Nat.reduceAdd] at h
          refine WL.val run_assign rfl rfl ?_
          refine WL.nil ?_
          -- to the cut, path LFF
          exact ⟨_, (t.take 0 (yT ty)).inc.freed.put 0 0, (t.take 0 (yT ty)).told 0, a, c, mkE_of ⟨rfl, rfl, rfl, rfl, rfl, rfl, trivial⟩, rfl, (by rw [c28]; have : ((t.take 0 (yT ty)).inc.freed.put 0 0).K 0 = 0 := rfl; simp [this]), rfl, h.to⟩
      · rintro env w ⟨j, t4, l, a, c, rfl, hh4, hk4, hl, h⟩
        have hll : l.length ≤ 8 := by rw [hl]; exact told_len
        refine W.seq ?_
        refine W.region ?_
        refine WL.val run_move rfl rfl ?_
        refine WL.eff (eff_call Try.call12 (holder_ok (h.fetch (blk b t4.cells 69)))) rfl rfl ?_
        rintro _ w ⟨hv, h⟩
        rw [hh4] at hv
        subst hv
        refine WL.val run_move rfl rfl ?_
        refine WL.val (run_extract rfl rfl) rfl rfl ?_
        refine WL.val (run_extract rfl rfl) rfl rfl ?_
        refine WL.val run_assign rfl rfl ?_
        refine WL.val run_assign rfl rfl ?_
        refine WL.nil ?_
        refine W.seq ?_
        refine W.seq ?_
        refine W.region ?_
        refine WL.val run_move rfl rfl ?_
        refine WL.val (run_lss rfl rfl) rfl rfl ?_
        refine WL.nil ?_
        refine W.condIf rfl (fun c33 => ?_) (fun c33 => ?_)
        · skip
          refine W.region ?_
          refine WL.val run_assign rfl rfl ?_
          refine WL.nil ?_
          refine W.seq ?_
          refine W.seq ?_
          have hln : l.length = 0 := by rw [hl]; unfold Tb.told; rw [if_neg (by rw [Tb.regsB_iff]; show ¬ (yT ty = 5 ∨ yT ty = 6); omega)]; rfl
          refine W.region ?_
          refine WL.val (run_fieldAddr 0 Try.underlying28 rfl Try.sizeOf3 rfl rfl) rfl rfl ?_
          refine WL.val (run_load1 Try.isAgg3 rfl (h.cellB rfl)) rfl rfl ?_
          refine WL.val (run_neqF rfl rfl (by decide)) rfl rfl ?_
          refine WL.val run_move rfl rfl ?_
          refine WL.val run_move rfl rfl ?_
          refine WL.val (run_neqF rfl rfl (by decide)) rfl rfl ?_
          refine WL.val (run_pickF rfl) rfl rfl ?_
          refine WL.val run_move rfl rfl ?_
          refine WL.val run_move rfl rfl ?_
          refine WL.val (run_lenSlice Try.underlying29 rfl) rfl rfl ?_
          refine WL.val run_move rfl rfl ?_
          refine WL.val (run_neqF rfl rfl (by show ((l.length : Nat) : Int) = 0; rw [hln]; rfl)) rfl rfl ?_
          refine WL.val (run_pickF rfl) rfl rfl ?_
          refine WL.val run_move rfl rfl ?_
          refine WL.val run_move rfl rfl ?_
          refine WL.eff (eff_call Try.call13 (key_ok (t := t4) (i := 0) (by decide) h)) rfl rfl ?_
          rintro _ w ⟨rfl, h⟩
          refine WL.val (run_neq rfl rfl) rfl rfl ?_
          refine WL.val run_move rfl rfl ?_
          refine WL.val (run_neqBoolF Try.underlying4 rfl rfl (by rw [show rel = decide (t4.K 0 ≠ 0) by simp only [hk4]; simp])) rfl rfl ?_
          refine WL.val (run_pickF rfl) rfl rfl ?_
          refine WL.nil ?_
          refine W.condF rfl ?_
          refine W.skip ?_
          refine W.seq ?_
          refine W.seq ?_
          refine W.region ?_
          refine WL.val run_assign rfl rfl ?_
          refine WL.nil ?_
          refine W.block ?_
          refine W.loop (fun (k : Nat) env w => ∃ j, env = mkE j [(12, .slice a l.length c), (15, .int .i64 (k : Int))] ∧ k ≤ l.length ∧ On W0 (blk b t4.cells 69 :: blk b11 [.int .i64 0, .int .i64 0, .int .i64 0, .slice none 0 0, .int .i64 0] 28 :: Own 2 (.slice a l.length c) l.length (notesV 10756 l) :: F) w) (fun k => l.length - k) (0) ?_ ?_
          · exact ⟨_, mkE_of ⟨rfl, rfl, trivial⟩, Nat.zero_le _, h.to⟩
          · rintro k env w ⟨j, rfl, hk, h⟩
            refine W.seq ?_
            refine W.seq ?_
            refine W.region ?_
            refine WL.val run_move rfl rfl ?_
            refine WL.val run_move rfl rfl ?_
            refine WL.val (run_lenSlice Try.underlying29 rfl) rfl rfl ?_
            refine WL.val (run_lss rfl rfl) rfl rfl ?_
            refine WL.nil ?_
            refine W.condIf rfl (fun c45 => ?_) (fun c45 => ?_)
            · skip
              refine W.skip ?_
              refine W.seq ?_
              refine W.block ?_
              refine W.seq ?_
              have hkl : k < l.length := by omega
              have ob_ : ∃ q, l[k]? = some q := ⟨l[k], by simp⟩
              obtain ⟨q, hq⟩ := ob_
              have hq0 : (q : Int) ≠ 0 := told_mem (t := (t.take 0 (yT ty))) (h := 0) (by rw [← hl]; exact List.mem_of_getElem? hq)
              have haa := Own.addr (h.fetch (Own 2 (.slice a l.length c) l.length (notesV 10756 l))) (by omega)
              obtain ⟨bl, ol, rfl⟩ := haa
              refine W.region ?_
              refine WL.val run_move rfl rfl ?_
              refine WL.val run_move rfl rfl ?_
              refine WL.val (run_indexAddr Try.underlying29 Try.sizeOf40 rfl rfl (by omega) (by omega)) rfl rfl ?_
              refine WL.val (run_fieldAddr 1 Try.underlying40 rfl Try.sizeOf3 rfl rfl) rfl rfl ?_
              refine WL.val (run_load1 Try.isAgg3 rfl ((h.cellsO (v := .slice (some ⟨bl, ol, none⟩) l.length c)).elem (i := k) (vs := noteV 10756 q) hkl (drop_flatMap (noteV 10756) 2 (noteV_length 10756) l _ _ hq) 1 _ rfl)) rfl rfl ?_
              refine WL.val (run_neqF rfl rfl (by decide)) rfl rfl ?_
              refine WL.val run_move rfl rfl ?_
              refine WL.val run_move rfl rfl ?_
              refine WL.val run_move rfl rfl ?_
              refine WL.val (run_indexAddr Try.underlying29 Try.sizeOf40 rfl rfl (by omega) (by omega)) rfl rfl ?_
              refine WL.val (run_fieldAddr 0 Try.underlying40 rfl Try.sizeOf3 rfl rfl) rfl rfl ?_
              refine WL.val (run_load1 Try.isAgg3 rfl ((h.cellsO (v := .slice (some ⟨bl, ol, none⟩) l.length c)).elem (i := k) (vs := noteV 10756 q) hkl (drop_flatMap (noteV 10756) 2 (noteV_length 10756) l _ _ hq) 0 _ rfl)) rfl rfl ?_
              refine WL.val (run_eqlF rfl rfl (hq0)) rfl rfl ?_
              refine WL.val (run_pickF rfl) rfl rfl ?_
              refine WL.nil ?_
              refine W.condF rfl ?_
              refine W.skip ?_
              refine W.region ?_
              refine WL.val run_move rfl rfl ?_
              refine WL.val (run_incN rfl rfl (by omega)) rfl rfl ?_
              refine WL.val run_assign rfl rfl ?_
              refine WL.nil ?_
              -- round, path LFTLT
              exact ⟨k + 1, ⟨_, mkE_of ⟨rfl, rfl, trivial⟩, by omega, h⟩, by show l.length - (k + 1) < l.length - k; omega⟩
            · skip
              refine W.exit ?_
              refine W.seq ?_
              refine W.region ?_
              refine WL.val run_assign rfl rfl ?_
              refine WL.nil ?_
              refine W.ret ?_
              refine bodyQ.r1 (v := .bool _) Try.results3 rfl ?_
              -- path LFTLF
              exact ⟨rfl, h.to⟩
        · skip
          refine W.skip ?_
          refine W.seq ?_
          refine W.seq ?_
          have hln : l.length = n := by rw [hl, hlv.2.2.2]; unfold Tb.told; rw [if_pos (Tb.regsB_iff.2 (by show yT ty = 5 ∨ yT ty = 6; have := typedB_iff.1 (yT_typed ty); omega))]; rfl
          refine W.region ?_
          refine WL.val (run_fieldAddr 0 Try.underlying28 rfl Try.sizeOf3 rfl rfl) rfl rfl ?_
          refine WL.val (run_load1 Try.isAgg3 rfl (h.cellB rfl)) rfl rfl ?_
          refine WL.val (run_neqF rfl rfl (by decide)) rfl rfl ?_
          refine WL.val run_move rfl rfl ?_
          refine WL.val run_move rfl rfl ?_
          refine WL.val (run_neqF rfl rfl (by decide)) rfl rfl ?_
          refine WL.val (run_pickF rfl) rfl rfl ?_
          refine WL.val run_move rfl rfl ?_
          refine WL.val run_move rfl rfl ?_
          refine WL.val (run_lenSlice Try.underlying29 rfl) rfl rfl ?_
          refine WL.val run_move rfl rfl ?_
          refine WL.val (run_neqF rfl rfl (by show ((l.length : Nat) : Int) = (n : Int); rw [hln])) rfl rfl ?_
          refine WL.val (run_pickF rfl) rfl rfl ?_
          refine WL.val run_move rfl rfl ?_
          refine WL.val run_move rfl rfl ?_
          refine WL.eff (eff_call Try.call13 (key_ok (t := t4) (i := 0) (by decide) h)) rfl rfl ?_
          rintro _ w ⟨rfl, h⟩
          refine WL.val (run_neq rfl rfl) rfl rfl ?_
          refine WL.val run_move rfl rfl ?_
          refine WL.val (run_neqBoolF Try.underlying4 rfl rfl (by rw [show rel = decide (t4.K 0 ≠ 0) by simp only [hk4]; simp])) rfl rfl ?_
          refine WL.val (run_pickF rfl) rfl rfl ?_
          refine WL.nil ?_
          refine W.condF rfl ?_
          refine W.skip ?_
          refine W.seq ?_
          refine W.seq ?_
          refine W.region ?_
          refine WL.val run_assign rfl rfl ?_
          refine WL.nil ?_
          refine W.block ?_
          refine W.loop (fun (k : Nat) env w => ∃ j, env = mkE j [(12, .slice a l.length c), (15, .int .i64 (k : Int))] ∧ k ≤ l.length ∧ On W0 (blk b t4.cells 69 :: blk b11 [.int .i64 0, .int .i64 0, .int .i64 0, .slice none 0 0, .int .i64 0] 28 :: Own 2 (.slice a l.length c) l.length (notesV 10756 l) :: F) w) (fun k => l.length - k) (0) ?_ ?_
          · exact ⟨_, mkE_of ⟨rfl, rfl, trivial⟩, Nat.zero_le _, h.to⟩
          · rintro k env w ⟨j, rfl, hk, h⟩
            refine W.seq ?_
            refine W.seq ?_
            refine W.region ?_
            refine WL.val run_move rfl rfl ?_
            refine WL.val run_move rfl rfl ?_
            refine WL.val (run_lenSlice Try.underlying29 rfl) rfl rfl ?_
            refine WL.val (run_lss rfl rfl) rfl rfl ?_
            refine WL.nil ?_
            refine W.condIf rfl (fun c45 => ?_) (fun c45 => ?_)
            · skip
              refine W.skip ?_
              refine W.seq ?_
              refine W.block ?_
              refine W.seq ?_
              have hkl : k < l.length := by omega
              have ob_ : ∃ q, l[k]? = some q := ⟨l[k], by simp⟩
              obtain ⟨q, hq⟩ := ob_
              have hq0 : (q : Int) ≠ 0 := told_mem (t := (t.take 0 (yT ty))) (h := 0) (by rw [← hl]; exact List.mem_of_getElem? hq)
              have haa := Own.addr (h.fetch (Own 2 (.slice a l.length c) l.length (notesV 10756 l))) (by omega)
              obtain ⟨bl, ol, rfl⟩ := haa
              refine W.region ?_
              refine WL.val run_move rfl rfl ?_
              refine WL.val run_move rfl rfl ?_
              refine WL.val (run_indexAddr Try.underlying29 Try.sizeOf40 rfl rfl (by omega) (by omega)) rfl rfl ?_
              refine WL.val (run_fieldAddr 1 Try.underlying40 rfl Try.sizeOf3 rfl rfl) rfl rfl ?_
              refine WL.val (run_load1 Try.isAgg3 rfl ((h.cellsO (v := .slice (some ⟨bl, ol, none⟩) l.length c)).elem (i := k) (vs := noteV 10756 q) hkl (drop_flatMap (noteV 10756) 2 (noteV_length 10756) l _ _ hq) 1 _ rfl)) rfl rfl ?_
              refine WL.val (run_neqF rfl rfl (by decide)) rfl rfl ?_
              refine WL.val run_move rfl rfl ?_
              refine WL.val run_move rfl rfl ?_
              refine WL.val run_move rfl rfl ?_
              refine WL.val (run_indexAddr Try.underlying29 Try.sizeOf40 rfl rfl (by omega) (by omega)) rfl rfl ?_
              refine WL.val (run_fieldAddr 0 Try.underlying40 rfl Try.sizeOf3 rfl rfl) rfl rfl ?_
              refine WL.val (run_load1 Try.isAgg3 rfl ((h.cellsO (v := .slice (some ⟨bl, ol, none⟩) l.length c)).elem (i := k) (vs := noteV 10756 q) hkl (drop_flatMap (noteV 10756) 2 (noteV_length 10756) l _ _ hq) 0 _ rfl)) rfl rfl ?_
              refine WL.val (run_eqlF rfl rfl (hq0)) rfl rfl ?_
              refine WL.val (run_pickF rfl) rfl rfl ?_
              refine WL.nil ?_
              refine W.condF rfl ?_
              refine W.skip ?_
              refine W.region ?_
              refine WL.val run_move rfl rfl ?_
              refine WL.val (run_incN rfl rfl (by omega)) rfl rfl ?_
              refine WL.val run_assign rfl rfl ?_
              refine WL.nil ?_
              -- round, path LFFLT
              exact ⟨k + 1, ⟨_, mkE_of ⟨rfl, rfl, trivial⟩, by omega, h⟩, by show l.length - (k + 1) < l.length - k; omega⟩
            · skip
              refine W.exit ?_
              refine W.seq ?_
              refine W.region ?_
              refine WL.val run_assign rfl rfl ?_
              refine WL.nil ?_
              refine W.ret ?_
              refine bodyQ.r1 (v := .bool _) Try.results3 rfl ?_
              -- path LFFLF
              exact ⟨rfl, h.to⟩

end Go.Proofs.Ytbfdkalcpacaaaa
