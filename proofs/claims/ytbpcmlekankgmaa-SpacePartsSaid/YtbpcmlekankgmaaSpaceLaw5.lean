/-
  The laws of blocks. Lines of walks printed by a program of the prover's.
-/
import Derived.Test.YtbpcmlekankgmaaSpaceEnc
namespace Go.Proofs.Ytbpcmlekankgmaa
open Go Go.Sl Go.Sl.BitM Go.Sl.SpM
set_option linter.unusedVariables false
set_option linter.unusedSimpArgs false
set_option maxHeartbeats 1000000
variable {W0 w : World} {L F : List HProp}


theorem cut_givesLH {a : Option Addr} {c lo hi : Nat} {bs : List UInt8} (C : Gives L (Bytes (.slice a bs.length c) bs)) (h1 : lo ≤ hi) (h2 : hi ≤ bs.length) (hc : bs.length ≤ c) :
    ∃ a' c', sliced a lo hi c 1 = .slice a' ((bs.drop lo).take (hi - lo)).length c' ∧ Gives L (Bytes (.slice a' ((bs.drop lo).take (hi - lo)).length c') ((bs.drop lo).take (hi - lo))) := by
  have hl : ((bs.drop lo).take (hi - lo)).length = hi - lo := by rw [List.length_take, List.length_drop]; omega
  rw [hl]
  refine ⟨if c = lo then a else a.map (·.add (lo * 1)), c - lo, rfl, fun h H => ?_⟩
  have c1 := (C h H).cut (l := lo) (h := hi) (m := c) h1 h2 (by omega) (Nat.le_refl _)
  have e1 : ((bytesV bs).drop (lo * 1)).take ((hi - lo) * 1) = bytesV ((bs.drop lo).take (hi - lo)) := by
    rw [Nat.mul_one, Nat.mul_one]
    simp [bytesV, List.map_drop, List.map_take]
  rw [e1] at c1
  unfold Bytes
  rw [hl]
  exact c1

theorem parts_ok {at_ cut : Int} {ad : Option Addr} {cd : Nat} {data : List UInt8} (h : On W0 F w) (C : Gives F (Bytes (.slice ad data.length cd) data)) :
    Calls Try.prog 7 #[.slice ad data.length cd, .int .i64 at_, .int .i64 cut] w (Ret fun v w' => v = .bool true ∧ On W0 F w') := by
  refine enter Try.func7 rfl Try.ntmps7 rfl ?_
  have ob_ := (h.reads C).bounds
  obtain ⟨hxc, hxm⟩ := ob_
  have hmx := maxLen_eq
  refine W.seq ?_
  refine W.region ?_
  refine WL.val run_assign rfl rfl ?_
  refine WL.nil ?_
  refine W.seq ?_
  refine W.seq ?_
  refine W.region ?_
  refine WL.eff (eff_call Try.call13 (sknown_ok h)) rfl rfl ?_
  rintro _ w ⟨rfl, h⟩
  refine WL.val (run_not rfl) rfl rfl ?_
  refine WL.nil ?_
  refine W.condF rfl ?_
  refine W.skip ?_
  refine W.seq ?_
  refine W.region ?_
  refine WL.val run_move rfl rfl ?_
  refine WL.val (run_lenSlice Try.underlying22 rfl) rfl rfl ?_
  refine WL.val (run_quo rfl rfl (by omega) (by omega) (by omega)) rfl rfl ?_
  refine WL.val run_assign rfl rfl ?_
  refine WL.nil ?_
  refine W.seq ?_
  refine W.seq ?_
  refine W.region ?_
  refine WL.val run_move rfl rfl ?_
  refine WL.val (run_lenSlice Try.underlying22 rfl) rfl rfl ?_
  refine WL.val (run_rem rfl rfl (by omega) (by omega)) rfl rfl ?_
  refine WL.dec (run_neq rfl rfl) rfl rfl (fun c26 => ?_) (fun c26 => ?_)
  · skip
    refine WL.val run_move rfl rfl ?_
    refine WL.skip rfl rfl ?_
    refine WL.skip rfl rfl ?_
    refine WL.val (run_pickT rfl) rfl rfl ?_
    refine WL.val run_move rfl rfl ?_
    refine WL.skip rfl rfl ?_
    refine WL.skip rfl rfl ?_
    refine WL.val (run_pickT rfl) rfl rfl ?_
    refine WL.val run_move rfl rfl ?_
    refine WL.skip rfl rfl ?_
    refine WL.skip rfl rfl ?_
    refine WL.val (run_pickT rfl) rfl rfl ?_
    refine WL.val run_move rfl rfl ?_
    refine WL.skip rfl rfl ?_
    refine WL.skip rfl rfl ?_
    refine WL.val (run_pickT rfl) rfl rfl ?_
    refine WL.val run_move rfl rfl ?_
    refine WL.skip rfl rfl ?_
    refine WL.skip rfl rfl ?_
    refine WL.skip rfl rfl ?_
    refine WL.val (run_pickT rfl) rfl rfl ?_
    refine WL.nil ?_
    refine W.condT rfl ?_
    refine W.seq ?_
    refine W.region ?_
    refine WL.val run_assign rfl rfl ?_
    refine WL.nil ?_
    refine W.ret ?_
    refine bodyQ.r1 (v := .bool _) Try.results7 rfl ?_
    -- path T
    exact ⟨rfl, h⟩
  · skip
    refine WL.val run_move rfl rfl ?_
    refine WL.val run_move rfl rfl ?_
    refine WL.dec (run_gtr rfl rfl) rfl rfl (fun c29 => ?_) (fun c29 => ?_)
    · skip
      refine WL.val (run_pickF rfl) rfl rfl ?_
      refine WL.val run_move rfl rfl ?_
      refine WL.skip rfl rfl ?_
      refine WL.skip rfl rfl ?_
      refine WL.val (run_pickT rfl) rfl rfl ?_
      refine WL.val run_move rfl rfl ?_
      refine WL.skip rfl rfl ?_
      refine WL.skip rfl rfl ?_
      refine WL.val (run_pickT rfl) rfl rfl ?_
      refine WL.val run_move rfl rfl ?_
      refine WL.skip rfl rfl ?_
      refine WL.skip rfl rfl ?_
      refine WL.val (run_pickT rfl) rfl rfl ?_
      refine WL.val run_move rfl rfl ?_
      refine WL.skip rfl rfl ?_
      refine WL.skip rfl rfl ?_
      refine WL.skip rfl rfl ?_
      refine WL.val (run_pickT rfl) rfl rfl ?_
      refine WL.nil ?_
      refine W.condT rfl ?_
      refine W.seq ?_
      refine W.region ?_
      refine WL.val run_assign rfl rfl ?_
      refine WL.nil ?_
      refine W.ret ?_
      refine bodyQ.r1 (v := .bool _) Try.results7 rfl ?_
      -- path FT
      exact ⟨rfl, h⟩
    · skip
      refine WL.val (run_pickF rfl) rfl rfl ?_
      refine WL.val run_move rfl rfl ?_
      refine WL.val run_move rfl rfl ?_
      refine WL.dec (run_lss rfl rfl) rfl rfl (fun c33 => ?_) (fun c33 => ?_)
      · skip
        refine WL.val (run_pickF rfl) rfl rfl ?_
        refine WL.val run_move rfl rfl ?_
        refine WL.skip rfl rfl ?_
        refine WL.skip rfl rfl ?_
        refine WL.val (run_pickT rfl) rfl rfl ?_
        refine WL.val run_move rfl rfl ?_
        refine WL.skip rfl rfl ?_
        refine WL.skip rfl rfl ?_
        refine WL.val (run_pickT rfl) rfl rfl ?_
        refine WL.val run_move rfl rfl ?_
        refine WL.skip rfl rfl ?_
        refine WL.skip rfl rfl ?_
        refine WL.skip rfl rfl ?_
        refine WL.val (run_pickT rfl) rfl rfl ?_
        refine WL.nil ?_
        refine W.condT rfl ?_
        refine W.seq ?_
        refine W.region ?_
        refine WL.val run_assign rfl rfl ?_
        refine WL.nil ?_
        refine W.ret ?_
        refine bodyQ.r1 (v := .bool _) Try.results7 rfl ?_
        -- path FFT
        exact ⟨rfl, h⟩
      · skip
        refine WL.val (run_pickF rfl) rfl rfl ?_
        refine WL.val run_move rfl rfl ?_
        refine WL.val run_move rfl rfl ?_
        refine WL.dec (run_gtr rfl rfl) rfl rfl (fun c37 => ?_) (fun c37 => ?_)
        · skip
          refine WL.val (run_pickF rfl) rfl rfl ?_
          refine WL.val run_move rfl rfl ?_
          refine WL.skip rfl rfl ?_
          refine WL.skip rfl rfl ?_
          refine WL.val (run_pickT rfl) rfl rfl ?_
          refine WL.val run_move rfl rfl ?_
          refine WL.skip rfl rfl ?_
          refine WL.skip rfl rfl ?_
          refine WL.skip rfl rfl ?_
          refine WL.val (run_pickT rfl) rfl rfl ?_
          refine WL.nil ?_
          refine W.condT rfl ?_
          refine W.seq ?_
          refine W.region ?_
          refine WL.val run_assign rfl rfl ?_
          refine WL.nil ?_
          refine W.ret ?_
          refine bodyQ.r1 (v := .bool _) Try.results7 rfl ?_
          -- path FFFT
          exact ⟨rfl, h⟩
        · skip
          refine WL.val (run_pickF rfl) rfl rfl ?_
          refine WL.val run_move rfl rfl ?_
          refine WL.val run_move rfl rfl ?_
          refine WL.dec (run_lss rfl rfl) rfl rfl (fun c41 => ?_) (fun c41 => ?_)
          · skip
            refine WL.val (run_pickF rfl) rfl rfl ?_
            refine WL.val run_move rfl rfl ?_
            refine WL.skip rfl rfl ?_
            refine WL.skip rfl rfl ?_
            refine WL.skip rfl rfl ?_
            refine WL.val (run_pickT rfl) rfl rfl ?_
            refine WL.nil ?_
            refine W.condT rfl ?_
            refine W.seq ?_
            refine W.region ?_
            refine WL.val run_assign rfl rfl ?_
            refine WL.nil ?_
            refine W.ret ?_
            refine bodyQ.r1 (v := .bool _) Try.results7 rfl ?_
            -- path FFFFT
            exact ⟨rfl, h⟩
          · skip
            refine WL.val (run_pickF rfl) rfl rfl ?_
            refine WL.val run_move rfl rfl ?_
            refine WL.val run_move rfl rfl ?_
            refine WL.val run_move rfl rfl ?_
            refine WL.val (run_gtr rfl rfl) rfl rfl ?_
            refine WL.val (run_pickF rfl) rfl rfl ?_
            refine WL.nil ?_
            refine W.condIf rfl (fun c8 => ?_) (fun c8 => ?_)
            · skip
              refine W.seq ?_
              refine W.region ?_
              refine WL.val run_assign rfl rfl ?_
              refine WL.nil ?_
              refine W.ret ?_
              refine bodyQ.r1 (v := .bool _) Try.results7 rfl ?_
              -- path FFFFFT
              exact ⟨rfl, h⟩
            · skip
              refine W.skip ?_
              refine W.seq ?_
              have ob_ := Int.eq_ofNat_of_zero_le (show 0 ≤ at_ by omega)
              obtain ⟨p, rfl⟩ := ob_
              have ob_ := Int.eq_ofNat_of_zero_le (show 0 ≤ cut by omega)
              obtain ⟨c, rfl⟩ := ob_
              have hd8 : data.length % 8 = 0 := by omega
              have hn20 : data.length / 8 ≤ 20 := by omega
              have hp20 : p ≤ 20 := by omega
              have hcn : c ≤ data.length / 8 := by omega
              have hwn := newS_wf (n := 40) (by omega) (by omega)
              have hwa := writeS_wf (s := newS 40) (at_ := p) (bs := data) hwn (by show 8 * p + data.length ≤ 8 * 40; omega)
              have hca := cap_write (s := newS 40) (p := p) (bs := data) hwn cap_new (by show p + data.length / 8 ≤ 40; omega)
              have hfull : wrK (newS 40) p data (data.length / 8) = writeS (newS 40) p data := by
                rw [wrK_eq hwn cap_new (data.length / 8) (by omega) (by show p + data.length / 8 ≤ 40; omega), List.take_of_length_le (by omega)]
              have happ : partS (writeS (newS 40) p data) p c ++ partS (writeS (newS 40) p data) (p + c) (data.length / 8 - c) = data := by
                rw [parts_app hwa (by show p + c + (data.length / 8 - c) ≤ 40; omega), show c + (data.length / 8 - c) = data.length / 8 by omega]
                exact partS_write hwn (by omega) (by show p + data.length / 8 ≤ 40; omega)
              refine W.region ?_
              refine WL.eff (eff_call Try.call14 (snew_ok h)) rfl rfl ?_
              rintro _ w hv
              rcases hv with ⟨N, hN, hn1, hn2, b, rfl, h⟩ | ⟨hno, _, _⟩
              rotate_left
              · exfalso; omega
              have hN2 : N = 40 := natEq (k := 40) hN
              subst hN2
              refine WL.val run_move rfl rfl ?_
              refine WL.val (run_extract rfl rfl) rfl rfl ?_
              refine WL.val (run_extract rfl rfl) rfl rfl ?_
              refine WL.val run_assign rfl rfl ?_
              refine WL.val run_assign rfl rfl ?_
              refine WL.nil ?_
              refine W.seq ?_
              refine W.region ?_
              refine WL.eff (eff_call Try.call14 (snew_ok h)) rfl rfl ?_
              rintro _ w hv
              rcases hv with ⟨N, hN, hn1, hn2, b2, rfl, h⟩ | ⟨hno, _, _⟩
              rotate_left
              · exfalso; omega
              have hN2 : N = 40 := natEq (k := 40) hN
              subst hN2
              refine WL.val run_move rfl rfl ?_
              refine WL.val (run_extract rfl rfl) rfl rfl ?_
              refine WL.val (run_extract rfl rfl) rfl rfl ?_
              refine WL.val run_assign rfl rfl ?_
              refine WL.val run_assign rfl rfl ?_
              refine WL.nil ?_
              refine W.seq ?_
              refine W.region ?_
              refine WL.val run_move rfl rfl ?_
              refine WL.val run_move rfl rfl ?_
              refine WL.val run_move rfl rfl ?_
              refine WL.eff (eff_call Try.call15 (write_ok (s := newS 40) (at_ := (p : Int)) (bs := data) (h.fetch (SpP 55 b (newS 40))) (Gives.to C))) rfl rfl ?_
              rintro _ w hv
              rcases hv with ⟨p', hp', -, -, -, rfl, h⟩ | ⟨hno, _, _⟩
              rotate_left
              · exact (hno ⟨hd8, (show (0 : Int) ≤ _ ∧ _ ∧ _ ∧ (p : Int) ≤ ((40 : Nat) : Int) ∧ _ ≤ ((40 : Nat) : Int) - (p : Int) by omega)⟩).elim
              have hpp : p = p' := Int.ofNat.inj hp'
              subst hpp
              refine WL.val run_assign rfl rfl ?_
              refine WL.nil ?_
              refine W.seq ?_
              refine W.seq ?_
              refine W.region ?_
              refine WL.val run_assign rfl rfl ?_
              refine WL.nil ?_
              refine W.block ?_
              refine W.loop (fun (k : Nat) env w => ∃ j, env = mkE j [(0, .slice ad data.length cd), (1, .int .i64 (p : Int)), (2, .int .i64 (c : Int)), (7, .int .i64 (((data.length / 8) : Nat) : Int)), (8, .pointer (some ⟨b, 0, none⟩)), (10, .pointer (some ⟨b2, 0, none⟩)), (12, .int .i64 0), (13, .int .i64 (k : Int))] ∧ k ≤ (data.length / 8) ∧ On W0 (SpP 55 b (writeS (newS 40) p data) :: SpP 55 b2 (wrK (newS 40) p data k) :: F) w) (fun k => (data.length / 8) - k) (0) ?_ ?_
              · exact ⟨_, mkE_of ⟨rfl, rfl, rfl, rfl, rfl, rfl, rfl, rfl, trivial⟩, Nat.zero_le _, h⟩
              · rintro k env w ⟨j, rfl, hk, h⟩
                refine W.seq ?_
                refine W.seq ?_
                refine W.region ?_
                refine WL.val run_move rfl rfl ?_
                refine WL.val run_move rfl rfl ?_
                refine WL.val (run_lss rfl rfl) rfl rfl ?_
                refine WL.nil ?_
                refine W.condIf rfl (fun c19 => ?_) (fun c19 => ?_)
                · skip
                  refine W.skip ?_
                  refine W.seq ?_
                  refine W.block ?_
                  refine W.seq ?_
                  have ob_ := cut_givesLH (lo := 8 * k) (hi := 8 * k + 8) C (by omega) (by omega) hxc
                  obtain ⟨a75, c75, hcut, CC⟩ := ob_
                  have hX : (data.drop (8 * k)).take (8 * k + 8 - 8 * k) = (data.drop (8 * k)).take 8 := by rw [Nat.add_sub_cancel_left]
                  rw [hX] at hcut CC
                  have hXl : ((data.drop (8 * k)).take 8).length = 8 := by rw [List.length_take, List.length_drop]; omega
                  have hNk : (wrK (newS 40) p data k).N = 40 := wrK_N ..
                  refine W.region ?_
                  refine WL.val run_move rfl rfl ?_
                  refine WL.val run_move rfl rfl ?_
                  refine WL.val run_move rfl rfl ?_
                  refine WL.val (run_addN (m := p) (n := k) rfl rfl (by omega)) rfl rfl ?_
                  refine WL.val run_move rfl rfl ?_
                  refine WL.val run_move rfl rfl ?_
                  refine WL.val (run_mulN (m := 8) (n := k) rfl rfl (by omega)) rfl rfl ?_
                  refine WL.val run_move rfl rfl ?_
                  refine WL.val (run_mulN (m := 8) (n := k) rfl rfl (by omega)) rfl rfl ?_
                  refine WL.val (run_addN (m := 8 * k) (n := 8) rfl rfl (by omega)) rfl rfl ?_
                  refine WL.val (run_cutLHV Try.underlying22 Try.sizeOf5 rfl rfl rfl (by omega) (by omega) hcut) rfl rfl ?_
                  refine WL.eff (eff_call Try.call15 (write_ok (s := (wrK (newS 40) p data k)) (at_ := ((p + k : Nat) : Int)) (bs := (data.drop (8 * k)).take 8) (h.fetch (SpP 55 b2 (wrK (newS 40) p data k))) (Gives.to CC))) rfl rfl ?_
                  rintro _ w hv
                  rcases hv with ⟨p', hp', -, -, -, rfl, h⟩ | ⟨hno, _, _⟩
                  rotate_left
                  · refine (hno ⟨by rw [hXl], ?_⟩).elim
                    rw [hXl]
                    unfold inS
                    rw [hNk]
                    omega
                  have hpp : p + k = p' := Int.ofNat.inj hp'
                  subst hpp
                  have h : On W0 (SpP 55 b2 (wrK (newS 40) p data (k + 1)) :: _) w := h
                  refine WL.val (run_neqF rfl rfl (rfl)) rfl rfl ?_
                  refine WL.nil ?_
                  refine W.condF rfl ?_
                  refine W.skip ?_
                  refine W.region ?_
                  refine WL.val run_move rfl rfl ?_
                  refine WL.val (run_incN rfl rfl (by omega)) rfl rfl ?_
                  refine WL.val run_assign rfl rfl ?_
                  refine WL.nil ?_
                  -- round, path FFFFFFLT
                  exact ⟨k + 1, ⟨_, mkE_of ⟨rfl, rfl, rfl, rfl, rfl, rfl, rfl, rfl, trivial⟩, by omega, h.to⟩, by show (data.length / 8) - (k + 1) < (data.length / 8) - k; omega⟩
                · skip
                  refine W.exit ?_
                  refine W.seq ?_
                  have ob_ : k = (data.length / 8) := by omega
                  obtain rfl := ob_
                  rw [hfull] at h
                  refine W.region ?_
                  refine WL.val run_move rfl rfl ?_
                  refine WL.val run_move rfl rfl ?_
                  refine WL.val run_move rfl rfl ?_
                  refine WL.eff (eff_call Try.call17 (read_ok (s := (writeS (newS 40) p data)) (at_ := (p : Int)) (n := (c : Int)) h)) rfl rfl ?_
                  rintro _ w hv
                  rcases hv with ⟨p', q', hp', hq', -, -, ax, rfl, h⟩ | ⟨hno, _, _⟩
                  rotate_left
                  · exact (hno (show (0 : Int) ≤ _ ∧ _ ∧ _ ∧ (p : Int) ≤ ((40 : Nat) : Int) ∧ _ ≤ ((40 : Nat) : Int) - (p : Int) by omega)).elim
                  have hpp : p = p' := Int.ofNat.inj hp'
                  have hqq : c = q' := Int.ofNat.inj hq'
                  subst hpp
                  subst hqq
                  refine WL.val run_move rfl rfl ?_
                  refine WL.val (run_extract rfl rfl) rfl rfl ?_
                  refine WL.val (run_extract rfl rfl) rfl rfl ?_
                  refine WL.val run_assign rfl rfl ?_
                  refine WL.val run_assign rfl rfl ?_
                  refine WL.nil ?_
                  refine W.seq ?_
                  refine W.region ?_
                  refine WL.val run_move rfl rfl ?_
                  refine WL.val run_move rfl rfl ?_
                  refine WL.val run_move rfl rfl ?_
                  refine WL.val (run_addN (m := p) (n := c) rfl rfl (by omega)) rfl rfl ?_
                  refine WL.val run_move rfl rfl ?_
                  refine WL.val run_move rfl rfl ?_
                  refine WL.val (run_subN (m := (data.length / 8)) (n := c) rfl rfl (by omega) (by omega)) rfl rfl ?_
                  refine WL.eff (eff_call Try.call17 (read_ok (s := (writeS (newS 40) p data)) (at_ := ((p + c : Nat) : Int)) (n := (((data.length / 8) - c : Nat) : Int)) (h.fetch (SpP 55 b (writeS (newS 40) p data))))) rfl rfl ?_
                  rintro _ w hv
                  rcases hv with ⟨p', q', hp', hq', -, -, ay, rfl, h⟩ | ⟨hno, _, _⟩
                  rotate_left
                  · exact (hno (show (0 : Int) ≤ _ ∧ _ ∧ _ ∧ ((p + c : Nat) : Int) ≤ ((40 : Nat) : Int) ∧ _ ≤ ((40 : Nat) : Int) - ((p + c : Nat) : Int) by omega)).elim
                  have hpp : p + c = p' := Int.ofNat.inj hp'
                  have hqq : data.length / 8 - c = q' := Int.ofNat.inj hq'
                  subst hpp
                  subst hqq
                  have hXY : (partS (writeS (newS 40) p data) p c).length + (partS (writeS (newS 40) p data) (p + c) (data.length / 8 - c)).length = data.length := by rw [← List.length_append, happ]
                  refine WL.val run_move rfl rfl ?_
                  refine WL.val (run_extract rfl rfl) rfl rfl ?_
                  refine WL.val (run_extract rfl rfl) rfl rfl ?_
                  refine WL.val run_assign rfl rfl ?_
                  refine WL.val run_assign rfl rfl ?_
                  refine WL.nil ?_
                  refine W.seq ?_
                  refine W.draw Try.follows h (fun w h => ?_)
                  refine WT.pure 0 rfl (by kernel_rfl) (fun w' => run_move) rfl rfl ?_
                  refine WT.pure 1 rfl (by kernel_rfl) (fun w' => run_move) rfl rfl ?_
                  refine WT.pure 2 rfl (by kernel_rfl) (fun w' => (run_add rfl rfl (by omega) (by omega))) rfl rfl ?_
                  refine WT.pure 3 rfl (by kernel_rfl) (fun w' => run_move) rfl rfl ?_
                  refine WT.pure 4 rfl (by kernel_rfl) (fun w' => (run_add rfl rfl (by omega) (by omega))) rfl rfl ?_
                  refine WT.pure 5 rfl (by kernel_rfl) (fun w' => run_eqlT rfl rfl (rfl)) rfl rfl ?_
                  refine WT.pure 6 rfl (by kernel_rfl) (fun w' => run_move) rfl rfl ?_
                  refine WT.pure 7 rfl (by kernel_rfl) (fun w' => run_move) rfl rfl ?_
                  refine WT.pure 10 rfl (by kernel_rfl) (fun w' => run_move) rfl rfl ?_
                  refine WT.eff 8 [] rfl (by kernel_rfl) (by kernel_rfl) (eff_call Try.call20 (encode_ok (s := (writeS (newS 40) p data)) hca (h.fetch (SpP 55 b (writeS (newS 40) p data))))) rfl rfl ?_
                  rintro _ w ⟨ae, rfl, h⟩
                  refine ⟨trivial, ?_⟩
                  refine WT.take 9 (fun w => Bytes (.slice ae (encS (writeS (newS 40) p data)).length (encS (writeS (newS 40) p data)).length) (encS (writeS (newS 40) p data)) (hp w)) rfl (by kernel_rfl) rfl rfl (h.cellsO (v := .slice ae (encS (writeS (newS 40) p data)).length (encS (writeS (newS 40) p data)).length)) (fun w' hC => run_bytesStr Try.underlying22 Try.underlying5 Try.underlying9 rfl hC) ?_
                  refine WT.eff 11 [true] rfl (by kernel_rfl) (by kernel_rfl) (eff_call Try.call20 (encode_ok (s := (writeS (newS 40) p data)) hca (h.fetch (SpP 55 b2 (writeS (newS 40) p data))))) rfl rfl ?_
                  rintro _ w ⟨af, rfl, h⟩
                  refine ⟨⟨h.cellsO (v := .slice ae (encS (writeS (newS 40) p data)).length (encS (writeS (newS 40) p data)).length), trivial⟩, ?_⟩
                  refine WT.take 12 (fun w => Bytes (.slice af (encS (writeS (newS 40) p data)).length (encS (writeS (newS 40) p data)).length) (encS (writeS (newS 40) p data)) (hp w)) rfl (by kernel_rfl) rfl rfl (h.cellsO (v := .slice af (encS (writeS (newS 40) p data)).length (encS (writeS (newS 40) p data)).length)) (fun w' hC => run_bytesStr Try.underlying22 Try.underlying5 Try.underlying9 rfl hC) ?_
                  refine WT.pure 13 rfl (by kernel_rfl) (fun w' => run_eqlStrT rfl rfl (rfl)) rfl rfl ?_
                  refine WT.pure 14 rfl (by kernel_rfl) (fun w' => (run_pickT rfl)) rfl rfl ?_
                  refine WT.pure 15 rfl (by kernel_rfl) (fun w' => run_move) rfl rfl ?_
                  refine WT.pure 16 rfl (by kernel_rfl) (fun w' => run_move) rfl rfl ?_
                  refine WT.take 17 (fun w => Bytes (.slice ax (partS (writeS (newS 40) p data) p c).length (partS (writeS (newS 40) p data) p c).length) (partS (writeS (newS 40) p data) p c) (hp w)) rfl (by kernel_rfl) rfl rfl (h.cellsO (v := .slice ax (partS (writeS (newS 40) p data) p c).length (partS (writeS (newS 40) p data) p c).length)) (fun w' hC => run_bytesStr Try.underlying22 Try.underlying5 Try.underlying9 rfl hC) ?_
                  refine WT.pure 18 rfl (by kernel_rfl) (fun w' => run_move) rfl rfl ?_
                  refine WT.take 19 (fun w => Bytes (.slice ay (partS (writeS (newS 40) p data) (p + c) ((data.length / 8) - c)).length (partS (writeS (newS 40) p data) (p + c) ((data.length / 8) - c)).length) (partS (writeS (newS 40) p data) (p + c) ((data.length / 8) - c)) (hp w)) rfl (by kernel_rfl) rfl rfl (h.cellsO (v := .slice ay (partS (writeS (newS 40) p data) (p + c) ((data.length / 8) - c)).length (partS (writeS (newS 40) p data) (p + c) ((data.length / 8) - c)).length)) (fun w' hC => run_bytesStr Try.underlying22 Try.underlying5 Try.underlying9 rfl hC) ?_
                  refine WT.pure 20 rfl (by kernel_rfl) (fun w' => (run_addStr rfl rfl (by omega))) rfl rfl ?_
                  refine WT.pure 21 rfl (by kernel_rfl) (fun w' => run_move) rfl rfl ?_
                  refine WT.take 22 (fun w => Bytes (.slice ad data.length cd) (data) (hp w)) rfl (by kernel_rfl) rfl rfl (h.readsTo C) (fun w' hC => run_bytesStr Try.underlying22 Try.underlying5 Try.underlying9 rfl hC) ?_
                  refine WT.pure 23 rfl (by kernel_rfl) (fun w' => run_eqlStrT rfl rfl (by rw [happ])) rfl rfl ?_
                  refine WT.pure 24 rfl (by kernel_rfl) (fun w' => (run_pickT rfl)) rfl rfl ?_
                  refine WT.pure 25 rfl (by kernel_rfl) (fun w' => run_assign) rfl rfl ?_
                  refine WT.done (by kernel_rfl) ?_
                  refine W.ret ?_
                  refine bodyQ.r1 (v := .bool _) Try.results7 rfl ?_
                  -- path FFFFFFLF
                  exact ⟨rfl, h.to⟩

end Go.Proofs.Ytbpcmlekankgmaa
