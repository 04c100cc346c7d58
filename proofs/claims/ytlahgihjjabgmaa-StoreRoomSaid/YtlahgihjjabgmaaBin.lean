/-
  Numbers, sums: the contracts. Lines of walks printed by a program of the prover's.
-/
import Derived.Test.YtlahgihjjabgmaaDisk3
import Derived.Test.YtlahgihjjabgmaaByteM
namespace Go.Proofs.Ytlahgihjjabgmaa
open Go Go.Sl Go.Sl.ByM
set_option linter.unusedVariables false
set_option linter.unusedSimpArgs false
set_option maxHeartbeats 1000000
set_option maxRecDepth 8000
variable {W0 w : World} {L F : List HProp}

theorem clip_bytes {a : Option Addr} {n c : Nat} {xs : List Value} (h : On W0 (Own 1 (.slice a n c) n xs :: L) w) :
    Calls Try.prog 81 #[.slice a n c] w (Ret fun v w' => v = .slice a n n ∧ On W0 (Own 1 (.slice a n n) n xs :: L) w') := by
  refine enter Try.func81 rfl Try.ntmps81 rfl ?_
  have ob_ := Own.form h
  obtain ⟨a', c', hv, hnc, hcm, hnone⟩ := ob_
  simp only [Value.slice.injEq] at hv
  obtain ⟨rfl, _, rfl⟩ := hv
  refine W.seq ?_
  refine W.region ?_
  refine WL.val run_assign rfl rfl ?_
  refine WL.nil ?_
  refine W.seq ?_
  refine W.region ?_
  refine WL.val run_move rfl rfl ?_
  refine WL.val run_move rfl rfl ?_
  refine WL.val (run_lenSlice Try.underlying22 rfl) rfl rfl ?_
  refine WL.val run_move rfl rfl ?_
  refine WL.val (run_lenSlice Try.underlying22 rfl) rfl rfl ?_
  refine WL.val (run_cutHM Try.underlying22 Try.sizeOf5 rfl rfl rfl  (by omega) (by omega)) rfl rfl ?_
  refine WL.val run_assign rfl rfl ?_
  refine WL.nil ?_
  refine W.ret ?_
  refine bodyQ.r1 (v := .slice _ _ _) Try.results81 rfl ?_
  -- path 
  exact ⟨rfl, Own.clip h⟩

theorem bput_ok {ax : Option Addr} {cx v n : Nat} {bs : List UInt8} (h : On W0 L w) (C : Gives L (Bytes (.slice ax bs.length cx) bs)) (hn1 : 1 ≤ n) (hn8 : n ≤ 8) (hv : v < 18446744073709551616) (hb : bs.length ≤ 140737488350000) : Calls Try.prog 73 #[.slice ax bs.length cx, .int .u64 (v : Int), .int .i64 (n : Int)] (w) (Ret fun r w' => ∃ a, r = .slice a (bs ++ be v n).length (bs ++ be v n).length ∧ On W0 (OwnB (.slice a (bs ++ be v n).length (bs ++ be v n).length) (bs ++ be v n) :: L) w') := by
  refine enter Try.func73 rfl Try.ntmps73 rfl ?_
  have hmx := maxLen_eq
  unfold be
  refine W.seq ?_
  refine W.region ?_
  refine WL.val run_assign rfl rfl ?_
  refine WL.nil ?_
  refine W.seq ?_
  refine W.region ?_
  refine WL.val run_move rfl rfl ?_
  refine WL.eff (eff_call Try.call68 (clone_bytes h C (by omega))) rfl rfl ?_
  rintro _ w ⟨a10, c10, rfl, h⟩
  refine WL.val run_assign rfl rfl ?_
  refine WL.nil ?_
  refine W.seq ?_
  refine W.seq ?_
  refine W.region ?_
  refine WL.val run_move rfl rfl ?_
  refine WL.val (run_lssF rfl rfl (by omega)) rfl rfl ?_
  refine WL.val run_move rfl rfl ?_
  refine WL.val run_move rfl rfl ?_
  refine WL.val (run_gtrF rfl rfl (by omega)) rfl rfl ?_
  refine WL.val (run_pickF rfl) rfl rfl ?_
  refine WL.nil ?_
  refine W.condF rfl ?_
  refine W.skip ?_
  refine W.seq ?_
  refine W.seq ?_
  refine W.region ?_
  refine WL.val run_move rfl rfl ?_
  refine WL.val (run_subN (m := n) (n := 1) rfl rfl (by omega) (by omega)) rfl rfl ?_
  refine WL.val run_assign rfl rfl ?_
  refine WL.nil ?_
  refine W.block ?_
  refine W.loop (fun (k : Nat) env w => ∃ (j : Env) (ao : Option Addr) (co : Nat) (z : Int), env = mkE j [(1, .int .u64 (v : Int)), (7, .slice ao (bs ++ putK v n k).length co), (8, .int .i64 z)] ∧ k ≤ n ∧ z = (n : Int) - 1 - k ∧ On W0 (OwnB (.slice ao (bs ++ putK v n k).length co) (bs ++ putK v n k) :: L) w) (fun k => n - k) (0) ?_ ?_
  · have e0 : bs ++ putK v n 0 = bs := by simp [putK]
    refine ⟨_, a10, c10, ((n - 1 : Nat) : Int), mkE_of ⟨rfl, (by rw [e0]; rfl), rfl, trivial⟩, Nat.zero_le _, by omega, (by rw [e0]; exact h)⟩
  · rintro k env w ⟨j, ao, co, z, rfl, hk, hz, h⟩
    have hpl : (bs ++ putK v n k).length = bs.length + k := by rw [List.length_append, putK_length]
    refine W.seq ?_
    refine W.seq ?_
    refine W.region ?_
    refine WL.val run_move rfl rfl ?_
    refine WL.val (run_geq rfl rfl) rfl rfl ?_
    refine WL.nil ?_
    refine W.condIf rfl (fun c11 => ?_) (fun c11 => ?_)
    · skip
      refine W.skip ?_
      refine W.seq ?_
      refine W.block ?_
      have ob_ := Int.eq_ofNat_of_zero_le (show 0 ≤ z by omega)
      obtain ⟨q, rfl⟩ := ob_
      have hq : n - 1 - k = q := by omega
      have e1 : bs ++ putK v n (k + 1) = (bs ++ putK v n k) ++ [UInt8.ofNat (v / 2 ^ (8 * q))] := by rw [putK_succ, hq, List.append_assoc]
      have el : (bs ++ putK v n (k + 1)).length = (bs ++ putK v n k).length + 1 := by rw [e1, List.length_append]; rfl
      refine W.region ?_
      refine WL.val run_move rfl rfl ?_
      refine WL.val run_move rfl rfl ?_
      refine WL.val run_move rfl rfl ?_
      refine WL.val (run_mulN (m := 8) (n := q) rfl rfl (by omega)) rfl rfl ?_
      refine WL.val (run_shrN (m := v) (j := 8 * q) rfl rfl (by show 8 * q ≤ 64; omega)) rfl rfl ?_
      refine WL.val (run_convByte Try.underlying40 Try.underlying5 rfl) rfl rfl ?_
      refine WL.eff (eff_mkSlice (zl := [.int .u8 0]) (out := [.int .u8 _]) h Try.underlying22 Try.sizeOf5 Try.zeroValue5 (by decide) (by kernel_rfl) rfl rfl (by simp) (⟨⟨_, _, rfl, rfl, by decide⟩, trivial⟩) rfl rfl (by simp [maxLen])) rfl rfl ?_
      rintro _ w ⟨b30, rfl, h⟩
      refine WL.eff (eff_app (c2 := 1) (bytes := 1) h rfl rfl (h.cellsO (v := .slice (some ⟨b30, 0, none⟩) 1 1)) Try.underlying22 rfl rfl rfl rfl rfl (by omega) (by omega) (by simp [Value.oneCell'])) rfl rfl ?_
      rintro _ w ⟨a31, c31, rfl, h⟩
      have hbv : bytesV (bs ++ putK v n k) ++ [.int .u8 (((UInt8.ofNat (v / 2 ^ (8 * q))).toNat : Nat) : Int)] = bytesV ((bs ++ putK v n k) ++ [UInt8.ofNat (v / 2 ^ (8 * q))]) := by simp [bytesV, byteV]
      have h : On W0 (Own 1 (.slice a31 ((bs ++ putK v n k).length + 1) c31) ((bs ++ putK v n k).length + 1) (bytesV (bs ++ putK v n k) ++ [.int .u8 (((UInt8.ofNat (v / 2 ^ (8 * q))).toNat : Nat) : Int)]) :: _) w := h
      rw [hbv] at h
      refine WL.val run_assign rfl rfl ?_
      refine WL.nil ?_
      refine W.region ?_
      refine WL.val run_move rfl rfl ?_
      refine WL.val (run_sub rfl rfl (by omega) (by omega)) rfl rfl ?_
      refine WL.val run_assign rfl rfl ?_
      refine WL.nil ?_
      -- round, path LT
      exact ⟨k + 1, ⟨_, a31, c31, (q : Int) - 1, mkE_of ⟨rfl, (by rw [el]; rfl), rfl, trivial⟩, by omega, by omega, (by unfold OwnB; rw [el, e1]; exact h.to)⟩, by show n - (k + 1) < n - k; omega⟩
    · skip
      refine W.exit ?_
      refine W.seq ?_
      refine W.region ?_
      refine WL.val run_move rfl rfl ?_
      refine WL.eff (eff_call Try.call81 (clip_bytes h)) rfl rfl ?_
      rintro _ w ⟨rfl, h⟩
      refine WL.val run_assign rfl rfl ?_
      refine WL.nil ?_
      refine W.ret ?_
      refine bodyQ.r1 (v := .slice _ _ _) Try.results73 rfl ?_
      -- path LF
      have ob_ : k = n := by omega
      obtain rfl := ob_
      exact ⟨ao, rfl, h⟩

theorem bget_ok {ax : Option Addr} {cx : Nat} {bs : List UInt8} {at_ n : Int} (h : On W0 L w) (C : Gives L (Bytes (.slice ax bs.length cx) bs)) : Calls Try.prog 80 #[.slice ax bs.length cx, .int .i64 at_, .int .i64 n] (w) (Ret fun v w' => ((1 ≤ n ∧ n ≤ 8 ∧ 0 ≤ at_ ∧ at_ ≤ bs.length ∧ n ≤ bs.length - at_) ∧ v = .tuple #[.int .u64 (beV ((bs.drop at_.toNat).take n.toNat) : Int), .bool true] ∧ On W0 L w') ∨ (¬ (1 ≤ n ∧ n ≤ 8 ∧ 0 ≤ at_ ∧ at_ ≤ bs.length ∧ n ≤ bs.length - at_) ∧ v = .tuple #[.int .u64 0, .bool false] ∧ On W0 L w')) := by
  refine enter Try.func80 rfl Try.ntmps80 rfl ?_
  have hmx := maxLen_eq
  have ob_ := Cells.bounds (h.readsTo C)
  obtain ⟨hbc, hbm⟩ := ob_
  refine W.seq ?_
  refine W.region ?_
  refine WL.val run_assign rfl rfl ?_
  refine WL.val run_assign rfl rfl ?_
  refine WL.nil ?_
  refine W.seq ?_
  refine W.seq ?_
  refine W.region ?_
  refine WL.val run_move rfl rfl ?_
  refine WL.dec (run_lss rfl rfl) rfl rfl (fun c12 => ?_) (fun c12 => ?_)
  · skip
    refine WL.val run_move rfl rfl ?_
    refine WL.skip rfl rfl ?_
    refine WL.skip rfl rfl ?_
    refine WL.val (run_pickT rfl) rfl rfl ?_
    refine WL.val run_move rfl rfl ?_
    refine WL.skip rfl rfl ?_
    refine WL.skip rfl rfl ?_
    refine WL.val (run_pickT rfl) rfl rfl ?_
    refine WL.val run_move rfl rfl ?_
    refine WL.skip rfl rfl ?_
    refine WL.skip rfl rfl ?_
    refine WL.skip rfl rfl ?_
    refine WL.skip rfl rfl ?_
    refine WL.val (run_pickT rfl) rfl rfl ?_
    refine WL.val run_move rfl rfl ?_
    refine WL.skip rfl rfl ?_
    refine WL.skip rfl rfl ?_
    refine WL.skip rfl rfl ?_
    refine WL.skip rfl rfl ?_
    refine WL.skip rfl rfl ?_
    refine WL.skip rfl rfl ?_
    refine WL.val (run_pickT rfl) rfl rfl ?_
    refine WL.nil ?_
    refine W.condT rfl ?_
    refine W.seq ?_
    refine W.region ?_
    refine WL.val run_assign rfl rfl ?_
    refine WL.val run_assign rfl rfl ?_
    refine WL.nil ?_
    refine W.ret ?_
    refine bodyQ.r2 (v1 := .int .u64 _) (v2 := .bool _) Try.results80 rfl rfl ?_
    -- path T
    exact .inr ⟨by omega, rfl, h⟩
  · skip
    refine WL.val run_move rfl rfl ?_
    refine WL.val run_move rfl rfl ?_
    refine WL.dec (run_gtr rfl rfl) rfl rfl (fun c15 => ?_) (fun c15 => ?_)
    · skip
      refine WL.val (run_pickF rfl) rfl rfl ?_
      refine WL.val run_move rfl rfl ?_
      refine WL.skip rfl rfl ?_
      refine WL.skip rfl rfl ?_
      refine WL.val (run_pickT rfl) rfl rfl ?_
      refine WL.val run_move rfl rfl ?_
      refine WL.skip rfl rfl ?_
      refine WL.skip rfl rfl ?_
      refine WL.skip rfl rfl ?_
      refine WL.skip rfl rfl ?_
      refine WL.val (run_pickT rfl) rfl rfl ?_
      refine WL.val run_move rfl rfl ?_
      refine WL.skip rfl rfl ?_
      refine WL.skip rfl rfl ?_
      refine WL.skip rfl rfl ?_
      refine WL.skip rfl rfl ?_
      refine WL.skip rfl rfl ?_
      refine WL.skip rfl rfl ?_
      refine WL.val (run_pickT rfl) rfl rfl ?_
      refine WL.nil ?_
      refine W.condT rfl ?_
      refine W.seq ?_
      refine W.region ?_
      refine WL.val run_assign rfl rfl ?_
      refine WL.val run_assign rfl rfl ?_
      refine WL.nil ?_
      refine W.ret ?_
      refine bodyQ.r2 (v1 := .int .u64 _) (v2 := .bool _) Try.results80 rfl rfl ?_
      -- path FT
      exact .inr ⟨by omega, rfl, h⟩
    · skip
      refine WL.val (run_pickF rfl) rfl rfl ?_
      refine WL.val run_move rfl rfl ?_
      refine WL.val run_move rfl rfl ?_
      refine WL.dec (run_lss rfl rfl) rfl rfl (fun c19 => ?_) (fun c19 => ?_)
      · skip
        refine WL.val (run_pickF rfl) rfl rfl ?_
        refine WL.val run_move rfl rfl ?_
        refine WL.skip rfl rfl ?_
        refine WL.skip rfl rfl ?_
        refine WL.skip rfl rfl ?_
        refine WL.skip rfl rfl ?_
        refine WL.val (run_pickT rfl) rfl rfl ?_
        refine WL.val run_move rfl rfl ?_
        refine WL.skip rfl rfl ?_
        refine WL.skip rfl rfl ?_
        refine WL.skip rfl rfl ?_
        refine WL.skip rfl rfl ?_
        refine WL.skip rfl rfl ?_
        refine WL.skip rfl rfl ?_
        refine WL.val (run_pickT rfl) rfl rfl ?_
        refine WL.nil ?_
        refine W.condT rfl ?_
        refine W.seq ?_
        refine W.region ?_
        refine WL.val run_assign rfl rfl ?_
        refine WL.val run_assign rfl rfl ?_
        refine WL.nil ?_
        refine W.ret ?_
        refine bodyQ.r2 (v1 := .int .u64 _) (v2 := .bool _) Try.results80 rfl rfl ?_
        -- path FFT
        exact .inr ⟨by omega, rfl, h⟩
      · skip
        refine WL.val (run_pickF rfl) rfl rfl ?_
        refine WL.val run_move rfl rfl ?_
        refine WL.val run_move rfl rfl ?_
        refine WL.val run_move rfl rfl ?_
        refine WL.val (run_lenSlice Try.underlying22 rfl) rfl rfl ?_
        refine WL.dec (run_gtr rfl rfl) rfl rfl (fun c25 => ?_) (fun c25 => ?_)
        · skip
          refine WL.val (run_pickF rfl) rfl rfl ?_
          refine WL.val run_move rfl rfl ?_
          refine WL.skip rfl rfl ?_
          refine WL.skip rfl rfl ?_
          refine WL.skip rfl rfl ?_
          refine WL.skip rfl rfl ?_
          refine WL.skip rfl rfl ?_
          refine WL.skip rfl rfl ?_
          refine WL.val (run_pickT rfl) rfl rfl ?_
          refine WL.nil ?_
          refine W.condT rfl ?_
          refine W.seq ?_
          refine W.region ?_
          refine WL.val run_assign rfl rfl ?_
          refine WL.val run_assign rfl rfl ?_
          refine WL.nil ?_
          refine W.ret ?_
          refine bodyQ.r2 (v1 := .int .u64 _) (v2 := .bool _) Try.results80 rfl rfl ?_
          -- path FFFT
          exact .inr ⟨by omega, rfl, h⟩
        · skip
          refine WL.val (run_pickF rfl) rfl rfl ?_
          refine WL.val run_move rfl rfl ?_
          refine WL.val run_move rfl rfl ?_
          refine WL.val run_move rfl rfl ?_
          refine WL.val (run_lenSlice Try.underlying22 rfl) rfl rfl ?_
          refine WL.val run_move rfl rfl ?_
          refine WL.val (run_sub rfl rfl (by omega) (by omega)) rfl rfl ?_
          refine WL.val (run_gtr rfl rfl) rfl rfl ?_
          refine WL.val (run_pickF rfl) rfl rfl ?_
          refine WL.nil ?_
          refine W.condIf rfl (fun c2 => ?_) (fun c2 => ?_)
          · skip
            refine W.seq ?_
            refine W.region ?_
            refine WL.val run_assign rfl rfl ?_
            refine WL.val run_assign rfl rfl ?_
            refine WL.nil ?_
            refine W.ret ?_
            refine bodyQ.r2 (v1 := .int .u64 _) (v2 := .bool _) Try.results80 rfl rfl ?_
            -- path FFFFT
            exact .inr ⟨by omega, rfl, h⟩
          · skip
            refine W.skip ?_
            refine W.seq ?_
            have hok : (1 ≤ n ∧ n ≤ 8 ∧ 0 ≤ at_ ∧ at_ ≤ bs.length ∧ n ≤ bs.length - at_) := by omega
            have ob_ := Int.eq_ofNat_of_zero_le (show 0 ≤ at_ by omega)
            obtain ⟨p, rfl⟩ := ob_
            have ob_ := Int.eq_ofNat_of_zero_le (show 0 ≤ n by omega)
            obtain ⟨q, rfl⟩ := ob_
            have hpq : p + q ≤ bs.length := by omega
            have ob_ := cut_bytes (l := p) (h := p + q) C hbc (by omega) hpq
            obtain ⟨a', c', hcut, gC⟩ := ob_
            have hpl : ((bs.drop p).take (p + q - p)).length = q := by rw [List.length_take, List.length_drop]; omega
            have epq : p + q - p = q := by omega
            rw [epq] at hcut gC hpl
            refine W.region ?_
            refine WL.val run_assign rfl rfl ?_
            refine WL.nil ?_
            refine W.seq ?_
            refine W.seq ?_
            refine W.region ?_
            refine WL.val run_move rfl rfl ?_
            refine WL.val run_move rfl rfl ?_
            refine WL.val run_move rfl rfl ?_
            refine WL.val run_move rfl rfl ?_
            refine WL.val (run_addN (m := p) (n := q) rfl rfl (by omega)) rfl rfl ?_
            refine WL.val (run_cutLHV (l := p) (h := p + q) Try.underlying22 Try.sizeOf5 rfl rfl rfl (by omega) (by omega) hcut) rfl rfl ?_
            refine WL.val (run_lenSlice Try.underlying22 rfl) rfl rfl ?_
            refine WL.val run_move rfl rfl ?_
            refine WL.nil ?_
            refine W.block ?_
            refine W.loop (fun (k : Nat) env w => k ≤ q ∧ ∃ j, env = mkE j [(8, .int .u64 (beV ((bs.drop p).take k) : Nat)), (40, .slice a' ((bs.drop p).take q).length c'), (41, .int .i64 (((bs.drop p).take q).length : Nat)), (42, .int .i64 (k : Nat))] ∧ On W0 L w) (fun k => q - k) (0) ?_ ?_
            · exact ⟨Nat.zero_le _, _, mkE_of ⟨rfl, rfl, rfl, rfl, trivial⟩, h⟩
            · rintro k env w ⟨hk, j, rfl, h⟩
              refine W.seq ?_
              refine W.region ?_
              refine WL.val (run_lss rfl rfl) rfl rfl ?_
              refine WL.nil ?_
              refine W.seq ?_
              refine W.condIf rfl (fun c11 => ?_) (fun c11 => ?_)
              · skip
                refine W.skip ?_
                refine W.seq ?_
                refine W.block ?_
                refine W.seq ?_
                have hkq : k < q := by omega
                have ob_ : ∃ c, ((bs.drop p).take q)[k]? = some c := ⟨((bs.drop p).take q)[k]'(by omega), List.getElem?_eq_getElem _⟩
                obtain ⟨c, hc⟩ := ob_
                have hc2 : (bs.drop p)[k]? = some c := by rw [List.getElem?_take, if_pos hkq] at hc; exact hc
                have gg := h.readsTo gC
                have ob_ := Cells.addr gg (by omega)
                obtain ⟨ba, oa, haa⟩ := ob_
                subst haa
                have hlt : beV ((bs.drop p).take k) < 2 ^ 56 := by
                  have h1 := beV_lt ((bs.drop p).take k)
                  have h2 : ((bs.drop p).take k).length ≤ 7 := by rw [List.length_take]; omega
                  have h3 : 256 ^ ((bs.drop p).take k).length ≤ 256 ^ 7 := Nat.pow_le_pow_right (by decide) h2
                  omega
                have hstep : beV ((bs.drop p).take (k + 1)) = beV ((bs.drop p).take k) * 2 ^ 8 ||| c.toNat := by
                  rw [take_snoc hc2, beV_snoc, show (2 : Nat) ^ 8 = 256 from rfl, or_byte]
                have hc8 := c.toNat_lt
                have hb1 : beV ((bs.drop p).take k) * 2 ^ 8 ≤ 18446744073709551615 := by omega
                have hb2 : c.toNat ≤ 18446744073709551615 := by omega
                have hb3 : beV ((bs.drop p).take k) * 2 ^ 8 ||| c.toNat ≤ 18446744073709551615 := by
                  rw [← hstep]
                  have h1 := beV_lt ((bs.drop p).take (k + 1))
                  have h2 : ((bs.drop p).take (k + 1)).length ≤ 8 := by rw [List.length_take]; omega
                  have h3 : 256 ^ ((bs.drop p).take (k + 1)).length ≤ 256 ^ 8 := Nat.pow_le_pow_right (by decide) h2
                  omega
                refine W.region ?_
                refine WL.val (run_indexAddr Try.underlying22 Try.sizeOf5 rfl rfl (by omega) (by omega)) rfl rfl ?_
                refine WL.val (run_load1 Try.isAgg5 rfl ((h.readsTo gC).elem (i := k) (vs := [.int .u8 (c.toNat : Int)]) (by omega) (bytes_row hc) 0 _ rfl)) rfl rfl ?_
                refine WL.val run_assign rfl rfl ?_
                refine WL.nil ?_
                refine W.region ?_
                refine WL.val run_move rfl rfl ?_
                refine WL.val (run_shlN (m := beV ((bs.drop p).take k)) (j := 8) rfl rfl (by decide) (Int.ofNat_le.2 hb1)) rfl rfl ?_
                refine WL.val run_move rfl rfl ?_
                refine WL.val (run_convIn Try.underlying5 Try.underlying40 rfl (by show (0 : Int) ≤ _; omega) (Int.ofNat_le.2 hb2)) rfl rfl ?_
                refine WL.val (run_orN (k := .u64) (m := beV ((bs.drop p).take k) * 2 ^ 8) (n := c.toNat) rfl rfl (Int.ofNat_le.2 hb1) (Int.ofNat_le.2 hb2) (Int.ofNat_le.2 hb3)) rfl rfl ?_
                refine WL.val run_assign rfl rfl ?_
                refine WL.nil ?_
                refine W.region ?_
                refine WL.val (run_add rfl rfl (by omega) (by omega)) rfl rfl ?_
                refine WL.val run_move rfl rfl ?_
                refine WL.nil ?_
                -- round, path FFFFFLT
                exact ⟨k + 1, ⟨by omega, _, mkE_of ⟨(congrArg (fun z : Nat => Value.int .u64 (z : Int)) hstep).symm, rfl, rfl, rfl, trivial⟩, h⟩, by show q - (k + 1) < q - k; omega⟩
              · skip
                refine W.exit ?_
                refine W.seq ?_
                refine W.region ?_
                refine WL.val run_move rfl rfl ?_
                refine WL.val run_assign rfl rfl ?_
                refine WL.val run_assign rfl rfl ?_
                refine WL.nil ?_
                refine W.ret ?_
                refine bodyQ.r2 (v1 := .int .u64 _) (v2 := .bool _) Try.results80 rfl rfl ?_
                -- path FFFFFLF
                have ob_ : k = q := by omega
                obtain rfl := ob_
                exact .inl ⟨hok, rfl, h⟩

end Go.Proofs.Ytlahgihjjabgmaa
