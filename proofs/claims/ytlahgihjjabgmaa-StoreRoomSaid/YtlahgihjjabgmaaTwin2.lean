/-
  The document: numbers, sums, values on two sectors: the contracts. Lines of walks printed by a program of the prover's.
-/
import Derived.Test.YtlahgihjjabgmaaTwin
namespace Go.Proofs.Ytlahgihjjabgmaa
open Go Go.Sl Go.Sl.ByM Go.Sl.DkM Go.Sl.TwM
set_option linter.unusedVariables false
set_option linter.unusedSimpArgs false
set_option maxHeartbeats 1000000
set_option maxRecDepth 8000
variable {W0 w : World} {L F : List HProp}

theorem rput_ok {ax : Option Addr} {cx v n : Nat} {bs : List UInt8} (h : On W0 (OwnB (.slice ax bs.length cx) bs :: L) w) (hn1 : 1 ≤ n) (hn8 : n ≤ 8) (hv : v < 18446744073709551616) (hb : bs.length ≤ 100000000000) : Calls Try.prog 76 #[.slice ax bs.length cx, .int .u64 (v : Int), .int .i64 (n : Int)] (w) (Ret fun r w' => ∃ a c, r = .slice a (bs ++ be v n).length c ∧ On W0 (OwnB (.slice a (bs ++ be v n).length c) (bs ++ be v n) :: L) w') := by
  refine enter Try.func76 rfl Try.ntmps76 rfl ?_
  have hmx := maxLen_eq
  unfold be
  refine W.seq ?_
  refine W.region ?_
  refine WL.val run_assign rfl rfl ?_
  refine WL.nil ?_
  refine W.seq ?_
  refine W.seq ?_
  refine W.region ?_
  refine WL.val run_move rfl rfl ?_
  refine WL.val (run_lssF rfl rfl (by omega)) rfl rfl ?_
  refine WL.val run_move rfl rfl ?_
  refine WL.val run_move rfl rfl ?_
  refine WL.val (run_gtrF rfl rfl (by omega)) rfl rfl ?_
  refine WL.val (run_pickF rfl) rfl rfl ?_
  refine WL.nil ?_
  refine W.condF rfl ?_
  refine W.skip ?_
  refine W.seq ?_
  refine W.seq ?_
  refine W.region ?_
  refine WL.val run_move rfl rfl ?_
  refine WL.val (run_subN (m := n) (n := 1) rfl rfl (by omega) (by omega)) rfl rfl ?_
  refine WL.val run_assign rfl rfl ?_
  refine WL.nil ?_
  refine W.block ?_
  refine W.loop (fun (k : Nat) env w => ∃ (j : Env) (ao : Option Addr) (co : Nat) (z : Int), env = mkE j [(0, .slice ao (bs ++ putK v n k).length co), (1, .int .u64 (v : Int)), (7, .int .i64 z)] ∧ k ≤ n ∧ z = (n : Int) - 1 - k ∧ On W0 (OwnB (.slice ao (bs ++ putK v n k).length co) (bs ++ putK v n k) :: L) w) (fun k => n - k) (0) ?_ ?_
  · have e0 : bs ++ putK v n 0 = bs := by simp [putK]
    refine ⟨_, ax, cx, ((n - 1 : Nat) : Int), mkE_of ⟨(by rw [e0]; rfl), rfl, rfl, trivial⟩, Nat.zero_le _, by omega, (by rw [e0]; exact h)⟩
  · rintro k env w ⟨j, ao, co, z, rfl, hk, hz, h⟩
    have hpl : (bs ++ putK v n k).length = bs.length + k := by rw [List.length_append, putK_length]
    refine W.seq ?_
    refine W.seq ?_
    refine W.region ?_
    refine WL.val run_move rfl rfl ?_
    refine WL.dec (run_geq rfl rfl) rfl rfl (fun c18 => ?_) (fun c18 => ?_)
    · skip
      refine WL.nil ?_
      refine W.condT rfl ?_
      refine W.skip ?_
      refine W.seq ?_
      refine W.block ?_
      have ob_ := Int.eq_ofNat_of_zero_le (show 0 ≤ z by omega)
      obtain ⟨q, rfl⟩ := ob_
      have hq : n - 1 - k = q := by omega
      have e1 : bs ++ putK v n (k + 1) = (bs ++ putK v n k) ++ [UInt8.ofNat (v / 2 ^ (8 * q))] := by rw [putK_succ, hq, List.append_assoc]
      have el : (bs ++ putK v n (k + 1)).length = (bs ++ putK v n k).length + 1 := by rw [e1, List.length_append]; rfl
      refine W.region ?_
      refine WL.val run_move rfl rfl ?_
      refine WL.val run_move rfl rfl ?_
      refine WL.val run_move rfl rfl ?_
      refine WL.val (run_convIn Try.underlying3 Try.underlying62 rfl (by show (0 : Int) ≤ _; omega) (by show _ ≤ (18446744073709551615 : Int); omega)) rfl rfl ?_
      refine WL.val (run_mulK (m := 8) (n := q) rfl rfl (by show _ ≤ (18446744073709551615 : Int); omega)) rfl rfl ?_
      refine WL.val (run_shrN (m := v) (j := 8 * q) rfl rfl (by show 8 * q ≤ 64; omega)) rfl rfl ?_
      refine WL.val (run_convByte Try.underlying40 Try.underlying5 rfl) rfl rfl ?_
      refine WL.eff (eff_mkSlice (zl := [.int .u8 0]) (out := [.int .u8 _]) h Try.underlying22 Try.sizeOf5 Try.zeroValue5 (by decide) (by kernel_rfl) rfl rfl (by simp) (⟨⟨_, _, rfl, rfl, by decide⟩, trivial⟩) rfl rfl (by simp [maxLen])) rfl rfl ?_
      rintro _ w ⟨b28, rfl, h⟩
      refine WL.eff (eff_app (c2 := 1) (bytes := 1) (h.fetch (OwnB (.slice ao (bs ++ putK v n k).length co) (bs ++ putK v n k))) rfl rfl (h.cellsO (v := .slice (some ⟨b28, 0, none⟩) 1 1)) Try.underlying22 rfl rfl rfl rfl rfl (by omega) (by omega) (by simp [Value.oneCell'])) rfl rfl ?_
      rintro _ w ⟨a29, c29, rfl, h⟩
      have hbv : bytesV (bs ++ putK v n k) ++ [.int .u8 (((UInt8.ofNat (v / 2 ^ (8 * q))).toNat : Nat) : Int)] = bytesV ((bs ++ putK v n k) ++ [UInt8.ofNat (v / 2 ^ (8 * q))]) := by simp [bytesV, byteV]
      have h : On W0 (Own 1 (.slice a29 ((bs ++ putK v n k).length + 1) c29) ((bs ++ putK v n k).length + 1) (bytesV (bs ++ putK v n k) ++ [.int .u8 (((UInt8.ofNat (v / 2 ^ (8 * q))).toNat : Nat) : Int)]) :: _) w := h
      rw [hbv] at h
      refine WL.val run_assign rfl rfl ?_
      refine WL.nil ?_
      refine W.region ?_
      refine WL.val run_move rfl rfl ?_
      refine WL.val (run_sub rfl rfl (by omega) (by omega)) rfl rfl ?_
      refine WL.val run_assign rfl rfl ?_
      refine WL.nil ?_
      -- round, path LT
      exact ⟨k + 1, ⟨_, a29, c29, (q : Int) - 1, mkE_of ⟨(by rw [el]; rfl), rfl, rfl, trivial⟩, by omega, by omega, (by unfold OwnB; rw [el, e1]; exact h.to)⟩, by show n - (k + 1) < n - k; omega⟩
    · skip
      refine WL.nil ?_
      refine W.condF rfl ?_
      refine W.exit ?_
      refine W.seq ?_
      refine W.region ?_
      refine WL.val run_move rfl rfl ?_
      refine WL.val run_assign rfl rfl ?_
      refine WL.nil ?_
      refine W.ret ?_
      refine bodyQ.r1 (v := .slice _ _ _) Try.results76 rfl ?_
      -- path LF
      have ob_ : k = n := by omega
      obtain rfl := ob_
      exact ⟨ao, co, rfl, h⟩

theorem rget_ok {ax : Option Addr} {cx : Nat} {bs : List UInt8} {at_ n : Int} (h : On W0 L w) (C : Gives L (Bytes (.slice ax bs.length cx) bs)) : Calls Try.prog 83 #[.slice ax bs.length cx, .int .i64 at_, .int .i64 n] (w) (Ret fun v w' => ((1 ≤ n ∧ n ≤ 8 ∧ 0 ≤ at_ ∧ at_ ≤ bs.length ∧ n ≤ bs.length - at_) ∧ v = .tuple #[.int .u64 (beV ((bs.drop at_.toNat).take n.toNat) : Int), .bool true] ∧ On W0 L w') ∨ (¬ (1 ≤ n ∧ n ≤ 8 ∧ 0 ≤ at_ ∧ at_ ≤ bs.length ∧ n ≤ bs.length - at_) ∧ v = .tuple #[.int .u64 0, .bool false] ∧ On W0 L w')) := by
  refine enter Try.func83 rfl Try.ntmps83 rfl ?_
  have hmx := maxLen_eq
  have ob_ := Cells.bounds (h.readsTo C)
  obtain ⟨hbc, hbm⟩ := ob_
  refine W.seq ?_
  refine W.region ?_
  refine WL.val run_assign rfl rfl ?_
  refine WL.val run_assign rfl rfl ?_
  refine WL.nil ?_
  refine W.seq ?_
  refine W.seq ?_
  refine W.region ?_
  refine WL.val run_move rfl rfl ?_
  refine WL.dec (run_lss rfl rfl) rfl rfl (fun c11 => ?_) (fun c11 => ?_)
  · skip
    refine WL.val run_move rfl rfl ?_
    refine WL.skip rfl rfl ?_
    refine WL.skip rfl rfl ?_
    refine WL.val (run_pickT rfl) rfl rfl ?_
    refine WL.val run_move rfl rfl ?_
    refine WL.skip rfl rfl ?_
    refine WL.skip rfl rfl ?_
    refine WL.val (run_pickT rfl) rfl rfl ?_
    refine WL.val run_move rfl rfl ?_
    refine WL.skip rfl rfl ?_
    refine WL.skip rfl rfl ?_
    refine WL.skip rfl rfl ?_
    refine WL.skip rfl rfl ?_
    refine WL.val (run_pickT rfl) rfl rfl ?_
    refine WL.val run_move rfl rfl ?_
    refine WL.skip rfl rfl ?_
    refine WL.skip rfl rfl ?_
    refine WL.skip rfl rfl ?_
    refine WL.skip rfl rfl ?_
    refine WL.skip rfl rfl ?_
    refine WL.skip rfl rfl ?_
    refine WL.val (run_pickT rfl) rfl rfl ?_
    refine WL.nil ?_
    refine W.condT rfl ?_
    refine W.seq ?_
    refine W.region ?_
    refine WL.val run_assign rfl rfl ?_
    refine WL.val run_assign rfl rfl ?_
    refine WL.nil ?_
    refine W.ret ?_
    refine bodyQ.r2 (v1 := .int .u64 _) (v2 := .bool _) Try.results83 rfl rfl ?_
    -- path T
    exact .inr ⟨by omega, rfl, h⟩
  · skip
    refine WL.val run_move rfl rfl ?_
    refine WL.val run_move rfl rfl ?_
    refine WL.dec (run_gtr rfl rfl) rfl rfl (fun c14 => ?_) (fun c14 => ?_)
    · skip
      refine WL.val (run_pickF rfl) rfl rfl ?_
      refine WL.val run_move rfl rfl ?_
      refine WL.skip rfl rfl ?_
      refine WL.skip rfl rfl ?_
      refine WL.val (run_pickT rfl) rfl rfl ?_
      refine WL.val run_move rfl rfl ?_
      refine WL.skip rfl rfl ?_
      refine WL.skip rfl rfl ?_
      refine WL.skip rfl rfl ?_
      refine WL.skip rfl rfl ?_
      refine WL.val (run_pickT rfl) rfl rfl ?_
      refine WL.val run_move rfl rfl ?_
      refine WL.skip rfl rfl ?_
      refine WL.skip rfl rfl ?_
      refine WL.skip rfl rfl ?_
      refine WL.skip rfl rfl ?_
      refine WL.skip rfl rfl ?_
      refine WL.skip rfl rfl ?_
      refine WL.val (run_pickT rfl) rfl rfl ?_
      refine WL.nil ?_
      refine W.condT rfl ?_
      refine W.seq ?_
      refine W.region ?_
      refine WL.val run_assign rfl rfl ?_
      refine WL.val run_assign rfl rfl ?_
      refine WL.nil ?_
      refine W.ret ?_
      refine bodyQ.r2 (v1 := .int .u64 _) (v2 := .bool _) Try.results83 rfl rfl ?_
      -- path FT
      exact .inr ⟨by omega, rfl, h⟩
    · skip
      refine WL.val (run_pickF rfl) rfl rfl ?_
      refine WL.val run_move rfl rfl ?_
      refine WL.val run_move rfl rfl ?_
      refine WL.dec (run_lss rfl rfl) rfl rfl (fun c18 => ?_) (fun c18 => ?_)
      · skip
        refine WL.val (run_pickF rfl) rfl rfl ?_
        refine WL.val run_move rfl rfl ?_
        refine WL.skip rfl rfl ?_
        refine WL.skip rfl rfl ?_
        refine WL.skip rfl rfl ?_
        refine WL.skip rfl rfl ?_
        refine WL.val (run_pickT rfl) rfl rfl ?_
        refine WL.val run_move rfl rfl ?_
        refine WL.skip rfl rfl ?_
        refine WL.skip rfl rfl ?_
        refine WL.skip rfl rfl ?_
        refine WL.skip rfl rfl ?_
        refine WL.skip rfl rfl ?_
        refine WL.skip rfl rfl ?_
        refine WL.val (run_pickT rfl) rfl rfl ?_
        refine WL.nil ?_
        refine W.condT rfl ?_
        refine W.seq ?_
        refine W.region ?_
        refine WL.val run_assign rfl rfl ?_
        refine WL.val run_assign rfl rfl ?_
        refine WL.nil ?_
        refine W.ret ?_
        refine bodyQ.r2 (v1 := .int .u64 _) (v2 := .bool _) Try.results83 rfl rfl ?_
        -- path FFT
        exact .inr ⟨by omega, rfl, h⟩
      · skip
        refine WL.val (run_pickF rfl) rfl rfl ?_
        refine WL.val run_move rfl rfl ?_
        refine WL.val run_move rfl rfl ?_
        refine WL.val run_move rfl rfl ?_
        refine WL.val (run_lenSlice Try.underlying22 rfl) rfl rfl ?_
        refine WL.dec (run_gtr rfl rfl) rfl rfl (fun c24 => ?_) (fun c24 => ?_)
        · skip
          refine WL.val (run_pickF rfl) rfl rfl ?_
          refine WL.val run_move rfl rfl ?_
          refine WL.skip rfl rfl ?_
          refine WL.skip rfl rfl ?_
          refine WL.skip rfl rfl ?_
          refine WL.skip rfl rfl ?_
          refine WL.skip rfl rfl ?_
          refine WL.skip rfl rfl ?_
          refine WL.val (run_pickT rfl) rfl rfl ?_
          refine WL.nil ?_
          refine W.condT rfl ?_
          refine W.seq ?_
          refine W.region ?_
          refine WL.val run_assign rfl rfl ?_
          refine WL.val run_assign rfl rfl ?_
          refine WL.nil ?_
          refine W.ret ?_
          refine bodyQ.r2 (v1 := .int .u64 _) (v2 := .bool _) Try.results83 rfl rfl ?_
          -- path FFFT
          exact .inr ⟨by omega, rfl, h⟩
        · skip
          refine WL.val (run_pickF rfl) rfl rfl ?_
          refine WL.val run_move rfl rfl ?_
          refine WL.val run_move rfl rfl ?_
          refine WL.val (run_lenSlice Try.underlying22 rfl) rfl rfl ?_
          refine WL.val run_move rfl rfl ?_
          refine WL.val (run_sub rfl rfl (by omega) (by omega)) rfl rfl ?_
          refine WL.val run_move rfl rfl ?_
          refine WL.val (run_lss rfl rfl) rfl rfl ?_
          refine WL.val (run_pickF rfl) rfl rfl ?_
          refine WL.nil ?_
          refine W.condIf rfl (fun c2 => ?_) (fun c2 => ?_)
          · skip
            refine W.seq ?_
            refine W.region ?_
            refine WL.val run_assign rfl rfl ?_
            refine WL.val run_assign rfl rfl ?_
            refine WL.nil ?_
            refine W.ret ?_
            refine bodyQ.r2 (v1 := .int .u64 _) (v2 := .bool _) Try.results83 rfl rfl ?_
            -- path FFFFT
            exact .inr ⟨by omega, rfl, h⟩
          · skip
            refine W.skip ?_
            refine W.seq ?_
            have hok : (1 ≤ n ∧ n ≤ 8 ∧ 0 ≤ at_ ∧ at_ ≤ bs.length ∧ n ≤ bs.length - at_) := by omega
            have ob_ := Int.eq_ofNat_of_zero_le (show 0 ≤ at_ by omega)
            obtain ⟨p, rfl⟩ := ob_
            have ob_ := Int.eq_ofNat_of_zero_le (show 0 ≤ n by omega)
            obtain ⟨q, rfl⟩ := ob_
            have hpq : p + q ≤ bs.length := by omega
            refine W.region ?_
            refine WL.val run_assign rfl rfl ?_
            refine WL.nil ?_
            refine W.seq ?_
            refine W.seq ?_
            refine W.region ?_
            refine WL.val run_assign rfl rfl ?_
            refine WL.nil ?_
            refine W.block ?_
            refine W.loop (fun (k : Nat) env w => k ≤ q ∧ ∃ j, env = mkE j [(0, .slice ax bs.length cx), (1, .int .i64 (p : Nat)), (2, .int .i64 (q : Nat)), (8, .int .u64 (beV ((bs.drop p).take k) : Nat)), (9, .int .i64 (k : Nat))] ∧ On W0 L w) (fun k => q - k) (0) ?_ ?_
            · exact ⟨Nat.zero_le _, _, mkE_of ⟨rfl, rfl, rfl, rfl, rfl, trivial⟩, h⟩
            · rintro k env w ⟨hk, j, rfl, h⟩
              refine W.seq ?_
              refine W.seq ?_
              refine W.region ?_
              refine WL.val run_move rfl rfl ?_
              refine WL.val run_move rfl rfl ?_
              refine WL.val (run_lss rfl rfl) rfl rfl ?_
              refine WL.nil ?_
              refine W.condIf rfl (fun c11 => ?_) (fun c11 => ?_)
              · skip
                refine W.skip ?_
                refine W.seq ?_
                refine W.block ?_
                have hkq : k < q := by omega
                have ob_ : ∃ c, (bs.drop p)[k]? = some c := ⟨(bs.drop p)[k]'(by rw [List.length_drop]; omega), List.getElem?_eq_getElem _⟩
                obtain ⟨c, hc2⟩ := ob_
                have hc3 : bs[p + k]? = some c := by rw [List.getElem?_drop] at hc2; exact hc2
                have gg := h.readsTo C
                have ob_ := Cells.addr gg (by omega)
                obtain ⟨ba, oa, haa⟩ := ob_
                subst haa
                have hlt : beV ((bs.drop p).take k) < 2 ^ 56 := by
                  have h1 := beV_lt ((bs.drop p).take k)
                  have h2 : ((bs.drop p).take k).length ≤ 7 := by rw [List.length_take]; omega
                  have h3 : 256 ^ ((bs.drop p).take k).length ≤ 256 ^ 7 := Nat.pow_le_pow_right (by decide) h2
                  omega
                have hstep : beV ((bs.drop p).take (k + 1)) = beV ((bs.drop p).take k) * 2 ^ 8 ||| c.toNat := by
                  rw [take_snoc hc2, beV_snoc, show (2 : Nat) ^ 8 = 256 from rfl, or_byte]
                have hc8 := c.toNat_lt
                have hb1 : beV ((bs.drop p).take k) * 2 ^ 8 ≤ 18446744073709551615 := by omega
                have hb2 : c.toNat ≤ 18446744073709551615 := by omega
                have hb3 : beV ((bs.drop p).take k) * 2 ^ 8 ||| c.toNat ≤ 18446744073709551615 := by
                  rw [← hstep]
                  have h1 := beV_lt ((bs.drop p).take (k + 1))
                  have h2 : ((bs.drop p).take (k + 1)).length ≤ 8 := by rw [List.length_take]; omega
                  have h3 : 256 ^ ((bs.drop p).take (k + 1)).length ≤ 256 ^ 8 := Nat.pow_le_pow_right (by decide) h2
                  omega
                refine W.region ?_
                refine WL.val run_move rfl rfl ?_
                refine WL.val (run_shlN (m := beV ((bs.drop p).take k)) (j := 8) rfl rfl (by decide) (Int.ofNat_le.2 hb1)) rfl rfl ?_
                refine WL.val run_move rfl rfl ?_
                refine WL.val run_move rfl rfl ?_
                refine WL.val run_move rfl rfl ?_
                refine WL.val (run_addN (m := p) (n := k) rfl rfl (by omega)) rfl rfl ?_
                refine WL.val (run_indexAddr Try.underlying22 Try.sizeOf5 rfl rfl (by omega) (by omega)) rfl rfl ?_
                refine WL.val (run_load1 Try.isAgg5 rfl ((h.readsTo C).elem (i := p + k) (vs := [.int .u8 (c.toNat : Int)]) (by omega) (bytes_row hc3) 0 _ rfl)) rfl rfl ?_
                refine WL.val (run_convIn Try.underlying5 Try.underlying40 rfl (by show (0 : Int) ≤ _; omega) (Int.ofNat_le.2 hb2)) rfl rfl ?_
                refine WL.val (run_orN (k := .u64) (m := beV ((bs.drop p).take k) * 2 ^ 8) (n := c.toNat) rfl rfl (Int.ofNat_le.2 hb1) (Int.ofNat_le.2 hb2) (Int.ofNat_le.2 hb3)) rfl rfl ?_
                refine WL.val run_assign rfl rfl ?_
                refine WL.nil ?_
                refine W.region ?_
                refine WL.val run_move rfl rfl ?_
                refine WL.val (run_add rfl rfl (by omega) (by omega)) rfl rfl ?_
                refine WL.val run_assign rfl rfl ?_
                refine WL.nil ?_
                -- round, path FFFFFLT
                exact ⟨k + 1, ⟨by omega, _, mkE_of ⟨rfl, rfl, rfl, (congrArg (fun z : Nat => Value.int .u64 (z : Int)) hstep).symm, rfl, trivial⟩, h⟩, by show q - (k + 1) < q - k; omega⟩
              · skip
                refine W.exit ?_
                refine W.seq ?_
                refine W.region ?_
                refine WL.val run_move rfl rfl ?_
                refine WL.val run_assign rfl rfl ?_
                refine WL.val run_assign rfl rfl ?_
                refine WL.nil ?_
                refine W.ret ?_
                refine bodyQ.r2 (v1 := .int .u64 _) (v2 := .bool _) Try.results83 rfl rfl ?_
                -- path FFFFFLF
                have ob_ : k = q := by omega
                obtain rfl := ob_
                exact .inl ⟨hok, rfl, h⟩

theorem rmore_ok {ax : Option Addr} {cx : Nat} {bs : List UInt8} {s : Nat} (hs : s < 4294967296) (h : On W0 L w) (C : Gives L (Bytes (.slice ax bs.length cx) bs)) : Calls Try.prog 110 #[.int .u32 (s : Int), .slice ax bs.length cx] w (Ret fun v w' => v = .int .u32 ((4294967295 ^^^ crcR (4294967295 ^^^ s) bs : Nat) : Int) ∧ On W0 L w') := by
  refine enter Try.func110 rfl Try.ntmps110 rfl ?_
  have hmx := maxLen_eq
  have ob_ := Cells.bounds (h.readsTo C)
  obtain ⟨hbc, hbm⟩ := ob_
  have hs0 : 4294967295 ^^^ s < 4294967296 := Nat.xor_lt_two_pow (n := 32) (by decide) hs
  refine W.seq ?_
  refine W.region ?_
  refine WL.val run_assign rfl rfl ?_
  refine WL.nil ?_
  refine W.seq ?_
  refine W.region ?_
  refine WL.val run_move rfl rfl ?_
  refine WL.val (run_compl32 rfl hs) rfl rfl ?_
  refine WL.val run_assign rfl rfl ?_
  refine WL.nil ?_
  refine W.seq ?_
  refine W.seq ?_
  refine W.region ?_
  refine WL.val run_assign rfl rfl ?_
  refine WL.nil ?_
  refine W.block ?_
  refine W.loop (fun (k : Nat) env w => k ≤ bs.length ∧ ∃ j, env = mkE j [(0, .int .u32 ((crcR (4294967295 ^^^ s) (bs.take k)) : Nat)), (1, .slice ax bs.length cx), (5, .int .i64 (k : Nat))] ∧ On W0 L w) (fun k => bs.length - k) (0) ?_ ?_
  · exact ⟨Nat.zero_le _, _, mkE_of ⟨rfl, rfl, rfl, trivial⟩, h⟩
  · rintro k env w ⟨hk, j, rfl, h⟩
    refine W.seq ?_
    refine W.seq ?_
    refine W.region ?_
    refine WL.val run_move rfl rfl ?_
    refine WL.val run_move rfl rfl ?_
    refine WL.val (run_lenSlice Try.underlying22 rfl) rfl rfl ?_
    refine WL.val (run_lss rfl rfl) rfl rfl ?_
    refine WL.nil ?_
    refine W.condIf rfl (fun c6 => ?_) (fun c6 => ?_)
    · skip
      refine W.skip ?_
      refine W.seq ?_
      refine W.block ?_
      refine W.seq ?_
      have ob_ : ∃ c, bs[k]? = some c := ⟨bs[k]'(by omega), List.getElem?_eq_getElem _⟩
      obtain ⟨c, hc⟩ := ob_
      have hCC := h.readsTo C
      have ob_ := Cells.addr hCC (by omega)
      obtain ⟨ba, oa, haa⟩ := ob_
      subst haa
      have hc8 := c.toNat_lt
      have hv := crcR_lt hs0 (bs.take k)
      have hm1 : ((crcR (4294967295 ^^^ s) (bs.take k)) ^^^ c.toNat) < 4294967296 := Nat.xor_lt_two_pow (n := 32) hv (by omega)
      have hstep : crcR (4294967295 ^^^ s) (bs.take (k + 1)) = itS 8 ((crcR (4294967295 ^^^ s) (bs.take k)) ^^^ c.toNat) := by rw [take_snoc hc, crcR_snoc]; rfl
      refine W.region ?_
      refine WL.val run_move rfl rfl ?_
      refine WL.val run_move rfl rfl ?_
      refine WL.val run_move rfl rfl ?_
      refine WL.val (run_indexAddr Try.underlying22 Try.sizeOf5 rfl rfl (by omega) (by omega)) rfl rfl ?_
      refine WL.val (run_load1 Try.isAgg5 rfl ((h.readsTo C).elem (i := k) (vs := [.int .u8 (c.toNat : Int)]) (by omega) (bytes_row hc) 0 _ rfl)) rfl rfl ?_
      refine WL.val (run_convIn Try.underlying5 Try.underlying59 rfl (by show (0 : Int) ≤ _; omega) (Int.ofNat_le.2 (show _ ≤ 4294967295 by omega))) rfl rfl ?_
      refine WL.val (run_xorN (k := .u32) (m := (crcR (4294967295 ^^^ s) (bs.take k))) (n := c.toNat) rfl rfl (Int.ofNat_le.2 (show _ ≤ 4294967295 by omega)) (Int.ofNat_le.2 (show _ ≤ 4294967295 by omega)) (Int.ofNat_le.2 (show _ ≤ 4294967295 by omega))) rfl rfl ?_
      refine WL.val run_assign rfl rfl ?_
      refine WL.nil ?_
      refine W.seq ?_
      refine W.region ?_
      refine WL.val run_assign rfl rfl ?_
      refine WL.nil ?_
      refine W.block ?_
      refine W.loop (fun (i : Nat) env w => i ≤ 8 ∧ ∃ j, env = mkE j [(0, .int .u32 (itS i ((crcR (4294967295 ^^^ s) (bs.take k)) ^^^ c.toNat) : Nat)), (1, .slice (some ⟨ba, oa, none⟩) bs.length cx), (5, .int .i64 (k : Nat)), (6, .int .i64 (i : Nat))] ∧ On W0 L w) (fun i => 8 - i) (0) ?_ ?_
      · exact ⟨by omega, _, mkE_of ⟨rfl, rfl, rfl, rfl, trivial⟩, h⟩
      · rintro i env w ⟨hi, j, rfl, h⟩
        have hlt : itS i ((crcR (4294967295 ^^^ s) (bs.take k)) ^^^ c.toNat) < 4294967296 := itS_lt hm1 i
        have hlt1 := sN_lt hlt
        refine W.seq ?_
        refine W.seq ?_
        refine W.region ?_
        refine WL.val run_move rfl rfl ?_
        refine WL.val (run_lss rfl rfl) rfl rfl ?_
        refine WL.nil ?_
        refine W.condIf rfl (fun c15 => ?_) (fun c15 => ?_)
        · skip
          refine W.skip ?_
          refine W.seq ?_
          refine W.block ?_
          refine W.seq ?_
          refine W.region ?_
          refine WL.val run_move rfl rfl ?_
          refine WL.val (run_andMod (k := .u32) 1 (m := itS i ((crcR (4294967295 ^^^ s) (bs.take k)) ^^^ c.toNat)) (n := 1) rfl rfl (Int.ofNat_le.2 (show _ ≤ 4294967295 by omega)) (by decide) rfl) rfl rfl ?_
          refine WL.val (run_eql rfl rfl) rfl rfl ?_
          refine WL.nil ?_
          refine W.condIf rfl (fun c20 => ?_) (fun c20 => ?_)
          · skip
            refine W.region ?_
            refine WL.val run_move rfl rfl ?_
            refine WL.val (run_shrN (m := itS i ((crcR (4294967295 ^^^ s) (bs.take k)) ^^^ c.toNat)) (j := 1) rfl rfl (by decide)) rfl rfl ?_
            refine WL.val (run_xorN (k := .u32) (m := itS i ((crcR (4294967295 ^^^ s) (bs.take k)) ^^^ c.toNat) / 2 ^ 1) (n := 2197175160) rfl rfl (Int.ofNat_le.2 (show _ ≤ 4294967295 by omega)) (by decide) (Int.ofNat_le.2 (show _ ≤ 4294967295 by rw [sN_odd (show itS i ((crcR (4294967295 ^^^ s) (bs.take k)) ^^^ c.toNat) % 2 ^ 1 = 1 by omega)]; omega))) rfl rfl ?_
            refine WL.val run_assign rfl rfl ?_
            refine WL.nil ?_
            refine W.region ?_
            refine WL.val run_move rfl rfl ?_
            refine WL.val (run_add rfl rfl (by omega) (by omega)) rfl rfl ?_
            refine WL.val run_assign rfl rfl ?_
            refine WL.nil ?_
            -- round, path LTLTT
            exact ⟨i + 1, ⟨by omega, _, mkE_of ⟨(congrArg (fun z : Nat => Value.int .u32 (z : Int)) (sN_odd (show itS i ((crcR (4294967295 ^^^ s) (bs.take k)) ^^^ c.toNat) % 2 ^ 1 = 1 by omega))), rfl, rfl, rfl, trivial⟩, h⟩, by show 8 - (i + 1) < 8 - i; omega⟩
          · skip
            refine W.region ?_
            refine WL.val run_move rfl rfl ?_
            refine WL.val (run_shrN (m := itS i ((crcR (4294967295 ^^^ s) (bs.take k)) ^^^ c.toNat)) (j := 1) rfl rfl (by decide)) rfl rfl ?_
            refine WL.val run_assign rfl rfl ?_
            refine WL.nil ?_
            refine W.region ?_
            refine WL.val run_move rfl rfl ?_
            refine WL.val (run_add rfl rfl (by omega) (by omega)) rfl rfl ?_
            refine WL.val run_assign rfl rfl ?_
            refine WL.nil ?_
            -- round, path LTLTF
            exact ⟨i + 1, ⟨by omega, _, mkE_of ⟨(congrArg (fun z : Nat => Value.int .u32 (z : Int)) (sN_even (show ¬ itS i ((crcR (4294967295 ^^^ s) (bs.take k)) ^^^ c.toNat) % 2 ^ 1 = 1 by omega))), rfl, rfl, rfl, trivial⟩, h⟩, by show 8 - (i + 1) < 8 - i; omega⟩
        · skip
          refine W.exit ?_
          have hi8 : i = 8 := by omega
          subst hi8
          refine W.region ?_
          refine WL.val run_move rfl rfl ?_
          refine WL.val (run_add rfl rfl (by omega) (by omega)) rfl rfl ?_
          refine WL.val run_assign rfl rfl ?_
          refine WL.nil ?_
          -- round, path LTLF
          exact ⟨k + 1, ⟨by omega, _, mkE_of ⟨(congrArg (fun z : Nat => Value.int .u32 (z : Int)) hstep).symm, rfl, rfl, trivial⟩, h⟩, by show bs.length - (k + 1) < bs.length - k; omega⟩
    · skip
      refine W.exit ?_
      refine W.seq ?_
      refine W.region ?_
      refine WL.val run_move rfl rfl ?_
      refine WL.val (run_compl32 rfl (crcR_lt hs0 _)) rfl rfl ?_
      refine WL.val run_assign rfl rfl ?_
      refine WL.nil ?_
      refine W.ret ?_
      refine bodyQ.r1 (v := .int .u32 _) Try.results110 rfl ?_
      -- path LF
      have e : bs.take k = bs := List.take_of_length_le (by omega)
      exact ⟨by rw [e], h⟩

theorem rsum_ok {ax : Option Addr} {cx : Nat} {bs : List UInt8} (h : On W0 L w) (C : Gives L (Bytes (.slice ax bs.length cx) bs)) : Calls Try.prog 78 #[.slice ax bs.length cx] w (Ret fun v w' => v = .int .u32 (crcS bs : Int) ∧ On W0 L w') := by
  refine enter Try.func78 rfl Try.ntmps78 rfl ?_
  refine W.seq ?_
  refine W.region ?_
  refine WL.val run_assign rfl rfl ?_
  refine WL.nil ?_
  refine W.seq ?_
  refine W.region ?_
  refine WL.val run_move rfl rfl ?_
  refine WL.eff (eff_call Try.call110 (rmore_ok (s := 0) (by decide) h C)) rfl rfl ?_
  rintro _ w ⟨rfl, h⟩
  refine WL.val run_assign rfl rfl ?_
  refine WL.nil ?_
  refine W.ret ?_
  refine bodyQ.r1 (v := .int .u32 _) Try.results78 rfl ?_
  -- path 
  exact ⟨rfl, h⟩

theorem rfour_ok {s : Nat} (h : On W0 L w) : Calls Try.prog 77 #[.int .u32 (s : Int)] w (Ret fun v w' => ∃ a, v = .slice a (four s).length (four s).length ∧ On W0 (OwnB (.slice a (four s).length (four s).length) (four s) :: L) w') := by
  refine enter Try.func77 rfl Try.ntmps77 rfl ?_
  refine W.seq ?_
  refine W.region ?_
  refine WL.val run_assign rfl rfl ?_
  refine WL.nil ?_
  refine W.seq ?_
  refine W.region ?_
  refine WL.val run_move rfl rfl ?_
  refine WL.val (run_convByte Try.underlying59 Try.underlying5 rfl) rfl rfl ?_
  refine WL.val run_move rfl rfl ?_
  refine WL.val (run_shrN (m := s) (j := 8) rfl rfl (by decide)) rfl rfl ?_
  refine WL.val (run_convByte Try.underlying59 Try.underlying5 rfl) rfl rfl ?_
  refine WL.val run_move rfl rfl ?_
  refine WL.val (run_shrN (m := s) (j := 16) rfl rfl (by decide)) rfl rfl ?_
  refine WL.val (run_convByte Try.underlying59 Try.underlying5 rfl) rfl rfl ?_
  refine WL.val run_move rfl rfl ?_
  refine WL.val (run_shrN (m := s) (j := 24) rfl rfl (by decide)) rfl rfl ?_
  refine WL.val (run_convByte Try.underlying59 Try.underlying5 rfl) rfl rfl ?_
  refine WL.eff (eff_mkRow (out := [.int .u8 _, .int .u8 _, .int .u8 _, .int .u8 _]) h Try.underlying22 Try.sizeOf5 Try.zeroValue5 rfl (by decide) rfl rfl rfl) rfl rfl ?_
  rintro _ w ⟨b14, rfl, h⟩
  refine WL.val run_assign rfl rfl ?_
  refine WL.nil ?_
  refine W.ret ?_
  refine bodyQ.r1 (v := .slice _ _ _) Try.results77 rfl ?_
  -- path 
  exact ⟨some ⟨b14, 0, none⟩, rfl, h⟩

theorem rpack_ok {ax : Option Addr} {cx : Nat} {value : List UInt8} {number : Nat} (hn : number < 18446744073709551616) (h : On W0 L w) (C : Gives L (Bytes (.slice ax value.length cx) value)) : Calls Try.prog 26 #[.int .u64 (number : Int), .slice ax value.length cx] w (Ret fun v w' => ((packT number value).2 = 0 ∧ value.length ≤ 488 ∧ ∃ a c, v = .tuple #[.slice a (secT number value).length c, .int .i64 0] ∧ On W0 (OwnB (.slice a (secT number value).length c) (secT number value) :: L) w') ∨ (488 < value.length ∧ v = .tuple #[.slice none 0 0, .int .i64 5] ∧ On W0 L w')) := by
  refine enter Try.func26 rfl Try.ntmps26 rfl ?_
  have hmx := maxLen_eq
  refine W.seq ?_
  refine W.region ?_
  refine WL.val run_assign rfl rfl ?_
  refine WL.val run_assign rfl rfl ?_
  refine WL.nil ?_
  refine W.seq ?_
  refine W.seq ?_
  refine W.region ?_
  refine WL.val run_move rfl rfl ?_
  refine WL.val (run_lenSlice Try.underlying22 rfl) rfl rfl ?_
  refine WL.val (run_gtr rfl rfl) rfl rfl ?_
  refine WL.nil ?_
  refine W.condIf rfl (fun c2 => ?_) (fun c2 => ?_)
  · skip
    refine W.seq ?_
    refine W.region ?_
    refine WL.val run_assign rfl rfl ?_
    refine WL.val run_assign rfl rfl ?_
    refine WL.nil ?_
    refine W.ret ?_
    refine bodyQ.r2 (v1 := .slice _ _ _) (v2 := .int .i64 _) Try.results26 rfl rfl ?_
    -- path T
    exact .inr ⟨by omega, rfl, h⟩
  · skip
    refine W.skip ?_
    refine W.seq ?_
    refine W.region ?_
    refine WL.eff (eff_mkRow (out := [.int .u8 _, .int .u8 _, .int .u8 _, .int .u8 _]) h Try.underlying22 Try.sizeOf5 Try.zeroValue5 rfl (by decide) rfl rfl rfl) rfl rfl ?_
    rintro _ w ⟨b10, rfl, h⟩
    refine WL.eff (eff_ofString h rfl (by omega) Try.underlying22 Try.underlying5) rfl rfl ?_
    rintro _ w ⟨rfl, h⟩
    refine WL.val run_move rfl rfl ?_
    refine WL.eff (eff_call Try.call76 (rput_ok (v := number) (n := 8) (bs := markT) h (by decide) (by decide) hn (by decide))) rfl rfl ?_
    rintro _ w ⟨a13, c13, rfl, h⟩
    have l13 : (markT ++ be number 8).length = 12 := by rw [List.length_append, be_length]; rfl
    refine WL.val run_assign rfl rfl ?_
    refine WL.nil ?_
    refine W.seq ?_
    refine W.region ?_
    refine WL.val run_move rfl rfl ?_
    refine WL.val run_move rfl rfl ?_
    refine WL.val (run_lenSlice Try.underlying22 rfl) rfl rfl ?_
    refine WL.val (run_convIn Try.underlying3 Try.underlying40 rfl (by show (0 : Int) ≤ _; omega) (by show _ ≤ (18446744073709551615 : Int); omega)) rfl rfl ?_
    refine WL.eff (eff_call Try.call76 (rput_ok (v := value.length) (n := 2) (bs := (markT ++ be number 8)) h (by decide) (by decide) (by omega) (by omega))) rfl rfl ?_
    rintro _ w ⟨a17, c17, rfl, h⟩
    have l17 : ((markT ++ be number 8) ++ be value.length 2).length = 14 := by rw [List.length_append, be_length, l13]
    refine WL.val run_assign rfl rfl ?_
    refine WL.nil ?_
    refine W.seq ?_
    refine W.region ?_
    refine WL.val run_move rfl rfl ?_
    refine WL.val run_move rfl rfl ?_
    refine WL.eff (eff_app (bytes := 1) h rfl rfl (h.readsTo C) Try.underlying22 rfl rfl rfl rfl rfl (by omega) (by omega) bytes_one) rfl rfl ?_
    rintro _ w ⟨a20, c20, hv, h⟩
    have e20 : ((markT ++ be number 8) ++ be value.length 2).length + value.length = (bodyT number value).length := by rw [bodyT_length, l17]
    rw [e20] at hv h
    subst hv
    have e2 : bytesV ((markT ++ be number 8) ++ be value.length 2) ++ bytesV value = bytesV (bodyT number value) := by unfold bodyT bytesV; rw [← List.map_append]
    rw [e2] at h
    have lb := bodyT_length number value
    refine WL.val run_assign rfl rfl ?_
    refine WL.nil ?_
    refine W.seq ?_
    refine W.block ?_
    refine W.loop (fun (k : Nat) env w => (bodyT number value).length + k ≤ 508 ∧ ∃ (j : Env) (ao : Option Addr) (co : Nat), env = mkE j [(6, .slice ao ((bodyT number value) ++ List.replicate k 0).length co)] ∧ On W0 (OwnB (.slice ao ((bodyT number value) ++ List.replicate k 0).length co) ((bodyT number value) ++ List.replicate k 0) :: L) w) (fun k => 508 - k) (0) ?_ ?_
    · have e0 : (bodyT number value) ++ List.replicate 0 0 = (bodyT number value) := by simp
      exact ⟨by omega, _, a20, c20, mkE_of ⟨(by rw [e0]; rfl), trivial⟩, (by rw [e0]; exact h.to)⟩
    · rintro k env w ⟨hk, j, ao, co, rfl, h⟩
      have hpl : ((bodyT number value) ++ List.replicate k 0).length = (bodyT number value).length + k := by rw [List.length_append, List.length_replicate]
      refine W.seq ?_
      refine W.seq ?_
      refine W.region ?_
      refine WL.val run_move rfl rfl ?_
      refine WL.val (run_lenSlice Try.underlying22 rfl) rfl rfl ?_
      refine WL.val (run_lss rfl rfl) rfl rfl ?_
      refine WL.nil ?_
      refine W.condIf rfl (fun c12 => ?_) (fun c12 => ?_)
      · skip
        refine W.skip ?_
        refine W.block ?_
        refine W.region ?_
        refine WL.val run_move rfl rfl ?_
        refine WL.eff (eff_mkSlice (zl := [.int .u8 0]) (out := [.int .u8 _]) h Try.underlying22 Try.sizeOf5 Try.zeroValue5 (by decide) (by kernel_rfl) rfl rfl (by simp) (⟨⟨_, _, rfl, rfl, by decide⟩, trivial⟩) rfl rfl (by simp [maxLen])) rfl rfl ?_
        rintro _ w ⟨b26, rfl, h⟩
        refine WL.eff (eff_app (c2 := 1) (bytes := 1) (h.fetch (OwnB (.slice ao ((bodyT number value) ++ List.replicate k 0).length co) ((bodyT number value) ++ List.replicate k 0))) rfl rfl (h.cellsO (v := .slice (some ⟨b26, 0, none⟩) 1 1)) Try.underlying22 rfl rfl rfl rfl rfl (by omega) (by omega) (by simp [Value.oneCell'])) rfl rfl ?_
        rintro _ w ⟨a27, c27, rfl, h⟩
        have hbv : bytesV ((bodyT number value) ++ List.replicate k 0) ++ [.int .u8 0] = bytesV (((bodyT number value) ++ List.replicate k 0) ++ [0]) := by simp [bytesV, byteV]
        rw [hbv] at h
        refine WL.val run_assign rfl rfl ?_
        refine WL.nil ?_
        -- round, path FLT
        have e1 : (bodyT number value) ++ List.replicate (k + 1) 0 = ((bodyT number value) ++ List.replicate k 0) ++ [0] := by rw [List.replicate_succ', List.append_assoc]
        have el : ((bodyT number value) ++ List.replicate (k + 1) 0).length = ((bodyT number value) ++ List.replicate k 0).length + 1 := by rw [e1, List.length_append]; rfl
        exact ⟨k + 1, ⟨by omega, _, a27, c27, mkE_of ⟨(by rw [el]; rfl), trivial⟩, (by unfold OwnB; rw [el, e1]; exact h.to)⟩, by show 508 - (k + 1) < 508 - k; omega⟩
      · skip
        refine W.exit ?_
        refine W.seq ?_
        have hend : 508 - (bodyT number value).length = k := by omega
        have ob_ : ∃ Q, Q = padB (bodyT number value) 508 := ⟨_, rfl⟩
        obtain ⟨Q, hQ⟩ := ob_
        have hQe : ((bodyT number value) ++ List.replicate k 0) = Q := by rw [hQ]; unfold padB; rw [hend]
        have hQl : Q.length = 508 := by rw [← hQe, hpl]; omega
        have gQ : On W0 (OwnB (.slice ao Q.length co) Q :: L) w := by rw [hQe] at h; exact h
        refine W.region ?_
        refine WL.val run_move rfl rfl ?_
        refine WL.val run_move rfl rfl ?_
        refine WL.eff (eff_call Try.call78 (rsum_ok (bs := ((bodyT number value) ++ List.replicate k 0)) h (Gives.ownO (v := .slice ao ((bodyT number value) ++ List.replicate k 0).length co)))) rfl rfl ?_
        rintro _ w ⟨rfl, h⟩
        refine WL.eff (eff_call Try.call77 (rfour_ok (s := crcS ((bodyT number value) ++ List.replicate k 0)) h)) rfl rfl ?_
        rintro _ w ⟨a31, rfl, h⟩
        refine WL.eff (eff_app (bytes := 1) (h.fetch (OwnB (.slice ao ((bodyT number value) ++ List.replicate k 0).length co) ((bodyT number value) ++ List.replicate k 0))) rfl rfl (h.cellsO (v := .slice a31 (four (crcS ((bodyT number value) ++ List.replicate k 0))).length (four (crcS ((bodyT number value) ++ List.replicate k 0))).length)) Try.underlying22 rfl rfl rfl rfl rfl (by rw [four_length]; omega) (by rw [four_length]; omega) bytes_one) rfl rfl ?_
        rintro _ w ⟨a32, c32, hv, h⟩
        have e4 : bytesV ((bodyT number value) ++ List.replicate k 0) ++ bytesV (four (crcS ((bodyT number value) ++ List.replicate k 0))) = bytesV (secT number value) := by
          rw [hQe, hQ]
          unfold secT sealB bytesV
          rw [← List.map_append]
        have e5 : ((bodyT number value) ++ List.replicate k 0).length + (four (crcS ((bodyT number value) ++ List.replicate k 0))).length = (secT number value).length := by rw [secT_length (by omega), four_length]; omega
        rw [e4, e5] at h
        rw [e5] at hv
        subst hv
        refine WL.val run_assign rfl rfl ?_
        refine WL.val run_assign rfl rfl ?_
        refine WL.nil ?_
        refine W.ret ?_
        refine bodyQ.r2 (v1 := .slice _ _ _) (v2 := .int .i64 _) Try.results26 rfl rfl ?_
        -- path FLF
        have hp : packT number value = (secT number value, 0) := by unfold packT; rw [if_neg (by omega)]
        exact .inl ⟨by rw [hp], by omega, a32, c32, rfl, h.to⟩

theorem runpack_ok {ax : Option Addr} {cx : Nat} {s : List UInt8} (h : On W0 L w) (C : Gives L (Bytes (.slice ax s.length cx) s)) (hsl : s.length ≤ 1000000) : Calls Try.prog 28 #[.slice ax s.length cx] w (Ret fun v w' => ((unpackT s).2.2 = 0 ∧ ∃ a c, v = .tuple #[.int .u64 ((unpackT s).1 : Int), .slice a (unpackT s).2.1.length c, .int .i64 0] ∧ On W0 (OwnB (.slice a (unpackT s).2.1.length c) (unpackT s).2.1 :: L) w') ∨ ((unpackT s).2.2 ≠ 0 ∧ v = .tuple #[.int .u64 0, .slice none 0 0, .int .i64 (unpackT s).2.2] ∧ On W0 L w')) := by
  refine enter Try.func28 rfl Try.ntmps28 rfl ?_
  have hmx := maxLen_eq
  have ob_ := Cells.bounds (h.readsTo C)
  obtain ⟨hbc, hbm⟩ := ob_
  refine W.seq ?_
  refine W.region ?_
  refine WL.val run_assign rfl rfl ?_
  refine WL.val run_assign rfl rfl ?_
  refine WL.val run_assign rfl rfl ?_
  refine WL.nil ?_
  refine W.seq ?_
  refine W.seq ?_
  refine W.region ?_
  refine WL.val run_move rfl rfl ?_
  refine WL.val (run_lenSlice Try.underlying22 rfl) rfl rfl ?_
  refine WL.dec (run_neq rfl rfl) rfl rfl (fun c14 => ?_) (fun c14 => ?_)
  · skip
    refine WL.nil ?_
    refine W.condT rfl ?_
    refine W.seq ?_
    refine W.region ?_
    refine WL.val run_assign rfl rfl ?_
    refine WL.val run_assign rfl rfl ?_
    refine WL.val run_assign rfl rfl ?_
    refine WL.nil ?_
    refine W.ret ?_
    refine bodyQ.r3 (v1 := .int .u64 _) (v2 := .slice _ _ _) (v3 := .int .i64 _) Try.results28 rfl rfl rfl ?_
    -- path T
    have e : unpackT s = (0, [], 3) := by unfold unpackT; rw [if_pos (by omega)]
    exact .inr ⟨by rw [e]; show (3 : Int) ≠ 0; decide, by rw [e], h⟩
  · skip
    refine WL.nil ?_
    refine W.condF rfl ?_
    refine W.skip ?_
    refine W.seq ?_
    refine W.seq ?_
    have hs : s.length = 512 := by omega
    have hu := unpack_ref hs
    have ob_ : ∃ B, B = s.take 508 := ⟨_, rfl⟩
    obtain ⟨B, hB⟩ := ob_
    have ob_ : ∃ Z, Z = s.drop 508 := ⟨_, rfl⟩
    obtain ⟨Z, hZ⟩ := ob_
    have hBl : B.length = 508 := by rw [hB, List.length_take]; omega
    have gB : Gives L (Bytes (.slice ax B.length cx) B) := by rw [hB]; exact front_bytes C (by omega)
    have hct := cut_bytes (l := 508) (h := s.length) C hbc (by omega) (Nat.le_refl _)
    have e4 : (s.drop 508).take (s.length - 508) = Z := by rw [hZ]; exact List.take_of_length_le (by rw [List.length_drop]; omega)
    rw [e4] at hct
    obtain ⟨a', c', hcut, gT⟩ := hct
    rw [← hB, ← hZ] at hu
    refine W.draw Try.follows h (fun w h => ?_)
    refine WT.pure 0 rfl (by kernel_rfl) (fun w' => run_move) rfl rfl ?_
    refine WT.pure 1 rfl (by kernel_rfl) (fun w' => (run_cutHV (h := 508) (r := B.length) Try.underlying22 Try.sizeOf5 rfl rfl (by omega) (by omega))) rfl rfl ?_
    refine WT.pure 5 rfl (by kernel_rfl) (fun w' => run_move) rfl rfl ?_
    refine WT.pure 6 rfl (by kernel_rfl) (fun w' => (run_cutLV (n := s.length) (l := 508) Try.underlying22 Try.sizeOf5 rfl rfl (by omega) hcut)) rfl rfl ?_
    refine WT.take 7 (fun w => Bytes (.slice a' Z.length c') (Z) (hp w)) rfl (by kernel_rfl) rfl rfl (h.readsTo gT) (fun w' hC => run_bytesStr Try.underlying22 Try.underlying5 Try.underlying9 rfl hC) ?_
    refine WT.eff 2 [true] rfl (by kernel_rfl) (by kernel_rfl) (eff_call Try.call78 (rsum_ok (bs := B) h gB)) rfl rfl ?_
    rintro _ w ⟨rfl, h⟩
    refine ⟨⟨h.readsTo gT, trivial⟩, ?_⟩
    refine WT.eff 3 [true] rfl (by kernel_rfl) (by kernel_rfl) (eff_call Try.call77 (rfour_ok (s := crcS B) h)) rfl rfl ?_
    rintro _ w ⟨a18, rfl, h⟩
    refine ⟨⟨h.readsTo gT, trivial⟩, ?_⟩
    refine WT.take 4 (fun w => Bytes (.slice a18 (four (crcS B)).length (four (crcS B)).length) (four (crcS B)) (hp w)) rfl (by kernel_rfl) rfl rfl (h.cellsO) (fun w' hC => run_bytesStr Try.underlying22 Try.underlying5 Try.underlying9 rfl hC) ?_
    refine WT.pure 8 rfl (by kernel_rfl) (fun w' => (run_neqStrD rfl rfl)) rfl rfl ?_
    refine WT.done (by kernel_rfl) ?_
    refine W.condIf rfl (fun c7 => ?_) (fun c7 => ?_)
    · skip
      refine W.seq ?_
      refine W.region ?_
      refine WL.val run_assign rfl rfl ?_
      refine WL.val run_assign rfl rfl ?_
      refine WL.val run_assign rfl rfl ?_
      refine WL.nil ?_
      refine W.ret ?_
      refine bodyQ.r3 (v1 := .int .u64 _) (v2 := .slice _ _ _) (v3 := .int .i64 _) Try.results28 rfl rfl rfl ?_
      -- path FT
      have c7 : four (crcS B) ≠ Z := c7
      rw [if_pos c7] at hu
      exact .inr ⟨by rw [hu]; show (4 : Int) ≠ 0; decide, by rw [hu], h.to⟩
    · skip
      refine W.skip ?_
      refine W.seq ?_
      have c7 : ¬ four (crcS B) ≠ Z := c7
      rw [if_neg c7] at hu
      refine W.region ?_
      refine WL.val run_move rfl rfl ?_
      refine WL.eff (eff_call Try.call83 (rget_ok (at_ := 4) (n := 8) (bs := s) h (Gives.to C))) rfl rfl ?_
      rintro _ w hg
      rcases hg with ⟨_, hv, h⟩ | ⟨hno, _, _⟩
      rotate_left
      · exact absurd (show _ by omega) hno
      have hv : _ = Value.tuple #[.int .u64 (numT s : Int), .bool true] := hv
      subst hv
      refine WL.val run_move rfl rfl ?_
      refine WL.val (run_extract rfl rfl) rfl rfl ?_
      refine WL.val (run_extract rfl rfl) rfl rfl ?_
      refine WL.val run_assign rfl rfl ?_
      refine WL.val run_assign rfl rfl ?_
      refine WL.nil ?_
      refine W.seq ?_
      refine W.region ?_
      refine WL.val run_move rfl rfl ?_
      refine WL.eff (eff_call Try.call83 (rget_ok (at_ := 12) (n := 2) (bs := s) h (Gives.to C))) rfl rfl ?_
      rintro _ w hg
      rcases hg with ⟨_, hv, h⟩ | ⟨hno, _, _⟩
      rotate_left
      · exact absurd (show _ by omega) hno
      have hv : _ = Value.tuple #[.int .u64 (lenT s : Int), .bool true] := hv
      subst hv
      refine WL.val run_move rfl rfl ?_
      refine WL.val (run_extract rfl rfl) rfl rfl ?_
      refine WL.val (run_extract rfl rfl) rfl rfl ?_
      refine WL.val run_assign rfl rfl ?_
      refine WL.val run_assign rfl rfl ?_
      refine WL.nil ?_
      refine W.seq ?_
      refine W.seq ?_
      refine W.region ?_
      refine WL.val run_move rfl rfl ?_
      refine WL.val (run_gtr rfl rfl) rfl rfl ?_
      refine WL.nil ?_
      refine W.condIf rfl (fun c14 => ?_) (fun c14 => ?_)
      · skip
        refine W.seq ?_
        refine W.region ?_
        refine WL.val run_assign rfl rfl ?_
        refine WL.val run_assign rfl rfl ?_
        refine WL.val run_assign rfl rfl ?_
        refine WL.nil ?_
        refine W.ret ?_
        refine bodyQ.r3 (v1 := .int .u64 _) (v2 := .slice _ _ _) (v3 := .int .i64 _) Try.results28 rfl rfl rfl ?_
        -- path FFT
        rw [if_pos (by omega)] at hu
        exact .inr ⟨by rw [hu]; show (2 : Int) ≠ 0; decide, by rw [hu], h.to⟩
      · skip
        refine W.skip ?_
        refine W.seq ?_
        have hle : lenT s ≤ 488 := by omega
        rw [if_neg (by omega)] at hu
        have hcv := cut_bytes (l := 14) (h := 14 + lenT s) C hbc (by omega) (by omega)
        have epq : 14 + lenT s - 14 = lenT s := by omega
        have evl : (s.drop 14).take (lenT s) = valT s := rfl
        rw [epq, evl] at hcv
        obtain ⟨a2, c2_, hcv, gV⟩ := hcv
        have hvl : (valT s).length = lenT s := by unfold valT; rw [List.length_take, List.length_drop]; omega
        have hnum : numT s < 18446744073709551616 := Nat.lt_of_lt_of_le (beV_lt _) (Nat.pow_le_pow_right (by decide) (show ((s.drop 4).take 8).length ≤ 8 by rw [List.length_take]; omega))
        refine W.region ?_
        refine WL.eff (eff_mkSlice (zl := []) (out := []) h Try.underlying22 Try.sizeOf5 Try.zeroValue5 (by decide) (by simp) rfl rfl (by simp) (trivial) rfl rfl (by simp [maxLen])) rfl rfl ?_
        rintro _ w ⟨b36, rfl, h⟩
        refine WL.val run_move rfl rfl ?_
        refine WL.val run_move rfl rfl ?_
        refine WL.val (run_addK (k := .u64) (m := 14) (n := lenT s) rfl rfl (by show _ ≤ (18446744073709551615 : Int); omega)) rfl rfl ?_
        refine WL.val (run_cutLHV (l := 14) (h := 14 + lenT s) Try.underlying22 Try.sizeOf5 rfl rfl rfl (by omega) (by omega) hcv) rfl rfl ?_
        refine WL.eff (eff_app0 (bytes := 1) h rfl rfl (h.readsTo gV) Try.underlying22 rfl rfl rfl rfl rfl (by omega) (by omega) bytes_one) rfl rfl ?_
        rintro _ w ⟨a41, c41, rfl, h⟩
        refine WL.val run_assign rfl rfl ?_
        refine WL.nil ?_
        refine W.seq ?_
        refine W.region ?_
        refine WL.val run_move rfl rfl ?_
        refine WL.val run_move rfl rfl ?_
        refine WL.eff (eff_call Try.call26 (rpack_ok (number := numT s) (value := valT s) hnum h (Gives.ownO (v := .slice a41 (valT s).length c41)))) rfl rfl ?_
        rintro _ w hg
        rcases hg with ⟨_, _, a43, c43, rfl, h⟩ | ⟨hno, _, _⟩
        rotate_left
        · omega
        have hp : packT (numT s) (valT s) = (secT (numT s) (valT s), 0) := by unfold packT; rw [if_neg (by omega)]
        rw [hp] at hu
        refine WL.val run_move rfl rfl ?_
        refine WL.val (run_extract rfl rfl) rfl rfl ?_
        refine WL.val (run_extract rfl rfl) rfl rfl ?_
        refine WL.val run_assign rfl rfl ?_
        refine WL.val run_assign rfl rfl ?_
        refine WL.nil ?_
        refine W.seq ?_
        refine W.seq ?_
        refine W.region ?_
        refine WL.val run_move rfl rfl ?_
        refine WL.val (run_bytesStr Try.underlying22 Try.underlying5 Try.underlying9 rfl (h.cellsO (v := .slice a43 (secT (numT s) (valT s)).length c43))) rfl rfl ?_
        refine WL.val run_move rfl rfl ?_
        refine WL.val (run_bytesStr Try.underlying22 Try.underlying5 Try.underlying9 rfl (h.readsTo C)) rfl rfl ?_
        refine WL.val (run_neqStrD rfl rfl) rfl rfl ?_
        refine WL.nil ?_
        refine W.condIf rfl (fun c21 => ?_) (fun c21 => ?_)
        · skip
          refine W.seq ?_
          refine W.region ?_
          refine WL.val run_assign rfl rfl ?_
          refine WL.val run_assign rfl rfl ?_
          refine WL.val run_assign rfl rfl ?_
          refine WL.nil ?_
          refine W.ret ?_
          refine bodyQ.r3 (v1 := .int .u64 _) (v2 := .slice _ _ _) (v3 := .int .i64 _) Try.results28 rfl rfl rfl ?_
          -- path FFFT
          have c21 : secT (numT s) (valT s) ≠ s := c21
          rw [if_pos c21] at hu
          exact .inr ⟨by rw [hu]; show (2 : Int) ≠ 0; decide, by rw [hu], h.to⟩
        · skip
          refine W.skip ?_
          refine W.seq ?_
          refine W.region ?_
          refine WL.val run_move rfl rfl ?_
          refine WL.val run_move rfl rfl ?_
          refine WL.val run_assign rfl rfl ?_
          refine WL.val run_assign rfl rfl ?_
          refine WL.val run_assign rfl rfl ?_
          refine WL.nil ?_
          refine W.ret ?_
          refine bodyQ.r3 (v1 := .int .u64 _) (v2 := .slice _ _ _) (v3 := .int .i64 _) Try.results28 rfl rfl rfl ?_
          -- path FFFF
          have c21 : ¬ secT (numT s) (valT s) ≠ s := c21
          rw [if_neg c21] at hu
          refine .inl ⟨by rw [hu], a41, c41, by rw [hu], ?_⟩
          rw [hu]
          exact h.to

end Go.Proofs.Ytlahgihjjabgmaa
