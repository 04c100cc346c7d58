/-
  A unit: numbers, what is told, attentions: the contracts. Lines of walks printed by a program of the prover's.
-/
import Derived.Test.YtdpakoefdpmebaaGreatSpace2
import Derived.Test.YtdpakoefdpmebaaGreatResv3
import Derived.Test.YtdpakoefdpmebaaGreatUnitModel
namespace Go.Proofs.YtdpakoefdpmebaaGreat
open Go Go.Sl Go.Sl.BitM Go.Sl.SpM Go.Sl.RsM Go.Sl.ByM Go.Sl.UnM
set_option linter.unusedVariables false
set_option linter.unusedSimpArgs false
set_option maxHeartbeats 1000000
set_option maxRecDepth 8000
variable {W0 w : World} {L F : List HProp}

theorem bput_ok {ax : Option Addr} {cx v n : Nat} {bs : List UInt8} (h : On W0 L w) (C : Gives L (Bytes (.slice ax bs.length cx) bs)) (hn1 : 1 ≤ n) (hn8 : n ≤ 8) (hv : v < 18446744073709551616) (hb : bs.length ≤ 140737488350000) : Calls Tryz.prog 87 #[.slice ax bs.length cx, .int .u64 (v : Int), .int .i64 (n : Int)] (w) (Ret fun r w' => ∃ a, r = .slice a (bs ++ be v n).length (bs ++ be v n).length ∧ On W0 (OwnB (.slice a (bs ++ be v n).length (bs ++ be v n).length) (bs ++ be v n) :: L) w') := by
  refine enter Tryz.func87 rfl Tryz.ntmps87 rfl ?_
  have hmx := maxLen_eq
  unfold be
  refine W.seq (W.region (WL.val run_assign rfl rfl (WL.nil (W.seq (W.region (WL.val run_move rfl rfl (WL.eff (eff_call Tryz.call85 (clone_bytes h C (by omega))) rfl rfl ?_)))))))
  rintro _ w ⟨a10, c10, rfl, h⟩
  refine WL.val run_assign rfl rfl (WL.nil (W.seq (W.seq (W.region (WL.val run_move rfl rfl (WL.val (run_lssF rfl rfl (by omega)) rfl rfl (WL.val run_move rfl rfl ?_)))))))
  refine WL.val run_move rfl rfl (WL.val (run_gtrF rfl rfl (by omega)) rfl rfl (WL.val (run_pickF rfl) rfl rfl (WL.nil (W.condF rfl (W.skip (W.seq (W.seq ?_)))))))
  refine W.region (WL.val run_move rfl rfl (WL.val (run_subN (m := n) (n := 1) rfl rfl (by omega) (by omega)) rfl rfl (WL.val run_assign rfl rfl (WL.nil (W.block ?_)))))
  refine W.loop (fun (k : Nat) env w => ∃ (j : Env) (ao : Option Addr) (co : Nat) (z : Int), env = mkE j [(1, .int .u64 (v : Int)), (7, .slice ao (bs ++ ByM.putK v n k).length co), (8, .int .i64 z)] ∧ k ≤ n ∧ z = (n : Int) - 1 - k ∧ On W0 (OwnB (.slice ao (bs ++ ByM.putK v n k).length co) (bs ++ ByM.putK v n k) :: L) w) (fun k => n - k) (0) ?_ ?_
  · have e0 : bs ++ ByM.putK v n 0 = bs := by simp [ByM.putK]
    refine ⟨_, a10, c10, ((n - 1 : Nat) : Int), mkE_of ⟨rfl, (by rw [e0]; rfl), rfl, trivial⟩, Nat.zero_le _, by omega, (by rw [e0]; exact h)⟩
  rintro k env w ⟨j, ao, co, z, rfl, hk, hz, h⟩
  have hpl : (bs ++ ByM.putK v n k).length = bs.length + k := by rw [List.length_append, ByM.putK_length]
  refine W.seq (W.seq (W.region (WL.val run_move rfl rfl (WL.val (run_geq rfl rfl) rfl rfl (WL.nil ?_)))))
  refine W.condIf rfl (fun c11 => ?_) (fun c11 => ?_)
  ·
   refine W.skip (W.seq (W.block ?_))
   have ob_ := Int.eq_ofNat_of_zero_le (show 0 ≤ z by omega)
   obtain ⟨q, rfl⟩ := ob_
   have hq : n - 1 - k = q := by omega
   have e1 : bs ++ ByM.putK v n (k + 1) = (bs ++ ByM.putK v n k) ++ [UInt8.ofNat (v / 2 ^ (8 * q))] := by rw [ByM.putK_succ, hq, List.append_assoc]
   have el : (bs ++ ByM.putK v n (k + 1)).length = (bs ++ ByM.putK v n k).length + 1 := by rw [e1, List.length_append]; rfl
   refine W.region (WL.val run_move rfl rfl (WL.val run_move rfl rfl (WL.val run_move rfl rfl (WL.val (run_mulN (m := 8) (n := q) rfl rfl (by omega)) rfl rfl (WL.val (run_shrN (m := v) (j := 8 * q) rfl rfl (by show 8 * q ≤ 64; omega)) rfl rfl (WL.val (run_convByte Tryz.underlying23 Tryz.underlying5 rfl) rfl rfl (WL.eff (eff_mkSlice (zl := [.int .u8 0]) (out := [.int .u8 _]) h Tryz.underlying22 Tryz.sizeOf5 Tryz.zeroValue5 (by decide) (by kernel_rfl) rfl rfl (by simp) (⟨⟨_, _, rfl, rfl, by decide⟩, trivial⟩) rfl rfl (by simp [maxLen])) rfl rfl ?_)))))))
   rintro _ w ⟨b30, rfl, h⟩
   refine WL.eff (eff_app (c2 := 1) (bytes := 1) h rfl rfl (h.cellsO (v := .slice (some ⟨b30, 0, none⟩) 1 1)) Tryz.underlying22 rfl rfl rfl rfl rfl (by omega) (by omega) (by simp [Value.oneCell'])) rfl rfl ?_
   rintro _ w ⟨a31, c31, rfl, h⟩
   have hbv : bytesV (bs ++ ByM.putK v n k) ++ [.int .u8 (((UInt8.ofNat (v / 2 ^ (8 * q))).toNat : Nat) : Int)] = bytesV ((bs ++ ByM.putK v n k) ++ [UInt8.ofNat (v / 2 ^ (8 * q))]) := by simp [bytesV, byteV]
   have h : On W0 (Own 1 (.slice a31 ((bs ++ ByM.putK v n k).length + 1) c31) ((bs ++ ByM.putK v n k).length + 1) (bytesV (bs ++ ByM.putK v n k) ++ [.int .u8 (((UInt8.ofNat (v / 2 ^ (8 * q))).toNat : Nat) : Int)]) :: _) w := h
   rw [hbv] at h
   refine WL.val run_assign rfl rfl (WL.nil (W.region (WL.val run_move rfl rfl (WL.val (run_sub rfl rfl (by omega) (by omega)) rfl rfl (WL.val run_assign rfl rfl (WL.nil ?_))))))
   exact ⟨k + 1, ⟨_, a31, c31, (q : Int) - 1, mkE_of ⟨rfl, (by rw [el]; rfl), rfl, trivial⟩, by omega, by omega, (by unfold OwnB; rw [el, e1]; exact h.to)⟩, by show n - (k + 1) < n - k; omega⟩
  refine W.exit (W.seq (W.region (WL.val run_move rfl rfl (WL.eff (eff_call Tryz.call79 (clip_bytes h)) rfl rfl ?_))))
  rintro _ w ⟨rfl, h⟩
  refine WL.val run_assign rfl rfl (WL.nil (W.ret (bodyQ.r1 (v := .slice _ _ _) Tryz.results87 rfl ?_)))
  have ob_ : k = n := by omega
  obtain rfl := ob_
  exact ⟨ao, rfl, h⟩

theorem bget_ok {ax : Option Addr} {cx : Nat} {bs : List UInt8} {at_ n : Int} (h : On W0 L w) (C : Gives L (Bytes (.slice ax bs.length cx) bs)) : Calls Tryz.prog 80 #[.slice ax bs.length cx, .int .i64 at_, .int .i64 n] (w) (Ret fun v w' => ((1 ≤ n ∧ n ≤ 8 ∧ 0 ≤ at_ ∧ at_ ≤ bs.length ∧ n ≤ bs.length - at_) ∧ v = .tuple #[.int .u64 (beV ((bs.drop at_.toNat).take n.toNat) : Int), .bool true] ∧ On W0 L w') ∨ (¬ (1 ≤ n ∧ n ≤ 8 ∧ 0 ≤ at_ ∧ at_ ≤ bs.length ∧ n ≤ bs.length - at_) ∧ v = .tuple #[.int .u64 0, .bool false] ∧ On W0 L w')) := by
  refine enter Tryz.func80 rfl Tryz.ntmps80 rfl ?_
  have hmx := maxLen_eq
  have ob_ := Cells.bounds (h.readsTo C)
  obtain ⟨hbc, hbm⟩ := ob_
  refine W.seq (W.region (WL.val run_assign rfl rfl (WL.val run_assign rfl rfl (WL.nil (W.seq (W.seq (W.region ?_)))))))
  refine WL.val run_move rfl rfl ?_
  refine WL.dec (run_lss rfl rfl) rfl rfl (fun c12 => ?_) (fun c12 => ?_)
  ·
   refine WL.val run_move rfl rfl (WL.skip rfl rfl (WL.skip rfl rfl (WL.val (run_pickT rfl) rfl rfl (WL.val run_move rfl rfl (WL.skip rfl rfl (WL.skip rfl rfl (WL.val (run_pickT rfl) rfl rfl ?_)))))))
   refine WL.val run_move rfl rfl (WL.skip rfl rfl (WL.skip rfl rfl (WL.skip rfl rfl (WL.skip rfl rfl (WL.val (run_pickT rfl) rfl rfl (WL.val run_move rfl rfl (WL.skip rfl rfl ?_)))))))
   refine WL.skip rfl rfl (WL.skip rfl rfl (WL.skip rfl rfl (WL.skip rfl rfl (WL.skip rfl rfl (WL.val (run_pickT rfl) rfl rfl (WL.nil (W.condT rfl ?_)))))))
   refine W.seq (W.region (WL.val run_assign rfl rfl (WL.val run_assign rfl rfl (WL.nil (W.ret (bodyQ.r2 (v1 := .int .u64 _) (v2 := .bool _) Tryz.results80 rfl rfl ?_))))))
   exact .inr ⟨by omega, rfl, h⟩
  refine WL.val run_move rfl rfl (WL.val run_move rfl rfl ?_)
  refine WL.dec (run_gtr rfl rfl) rfl rfl (fun c15 => ?_) (fun c15 => ?_)
  ·
   refine WL.val (run_pickF rfl) rfl rfl (WL.val run_move rfl rfl (WL.skip rfl rfl (WL.skip rfl rfl (WL.val (run_pickT rfl) rfl rfl (WL.val run_move rfl rfl (WL.skip rfl rfl (WL.skip rfl rfl ?_)))))))
   refine WL.skip rfl rfl (WL.skip rfl rfl (WL.val (run_pickT rfl) rfl rfl (WL.val run_move rfl rfl (WL.skip rfl rfl (WL.skip rfl rfl (WL.skip rfl rfl (WL.skip rfl rfl ?_)))))))
   refine WL.skip rfl rfl (WL.skip rfl rfl (WL.val (run_pickT rfl) rfl rfl (WL.nil (W.condT rfl (W.seq (W.region (WL.val run_assign rfl rfl ?_)))))))
   refine WL.val run_assign rfl rfl (WL.nil (W.ret (bodyQ.r2 (v1 := .int .u64 _) (v2 := .bool _) Tryz.results80 rfl rfl ?_)))
   exact .inr ⟨by omega, rfl, h⟩
  refine WL.val (run_pickF rfl) rfl rfl (WL.val run_move rfl rfl (WL.val run_move rfl rfl ?_))
  refine WL.dec (run_lss rfl rfl) rfl rfl (fun c19 => ?_) (fun c19 => ?_)
  ·
   refine WL.val (run_pickF rfl) rfl rfl (WL.val run_move rfl rfl (WL.skip rfl rfl (WL.skip rfl rfl (WL.skip rfl rfl (WL.skip rfl rfl (WL.val (run_pickT rfl) rfl rfl (WL.val run_move rfl rfl ?_)))))))
   refine WL.skip rfl rfl (WL.skip rfl rfl (WL.skip rfl rfl (WL.skip rfl rfl (WL.skip rfl rfl (WL.skip rfl rfl (WL.val (run_pickT rfl) rfl rfl (WL.nil ?_)))))))
   refine W.condT rfl (W.seq (W.region (WL.val run_assign rfl rfl (WL.val run_assign rfl rfl (WL.nil (W.ret (bodyQ.r2 (v1 := .int .u64 _) (v2 := .bool _) Tryz.results80 rfl rfl ?_)))))))
   exact .inr ⟨by omega, rfl, h⟩
  refine WL.val (run_pickF rfl) rfl rfl (WL.val run_move rfl rfl (WL.val run_move rfl rfl (WL.val run_move rfl rfl (WL.val (run_lenSlice Tryz.underlying22 rfl) rfl rfl ?_))))
  refine WL.dec (run_gtr rfl rfl) rfl rfl (fun c25 => ?_) (fun c25 => ?_)
  ·
   refine WL.val (run_pickF rfl) rfl rfl (WL.val run_move rfl rfl (WL.skip rfl rfl (WL.skip rfl rfl (WL.skip rfl rfl (WL.skip rfl rfl (WL.skip rfl rfl (WL.skip rfl rfl ?_)))))))
   refine WL.val (run_pickT rfl) rfl rfl (WL.nil (W.condT rfl (W.seq (W.region (WL.val run_assign rfl rfl (WL.val run_assign rfl rfl (WL.nil ?_)))))))
   refine W.ret (bodyQ.r2 (v1 := .int .u64 _) (v2 := .bool _) Tryz.results80 rfl rfl ?_)
   exact .inr ⟨by omega, rfl, h⟩
  refine WL.val (run_pickF rfl) rfl rfl (WL.val run_move rfl rfl (WL.val run_move rfl rfl (WL.val run_move rfl rfl (WL.val (run_lenSlice Tryz.underlying22 rfl) rfl rfl (WL.val run_move rfl rfl (WL.val (run_sub rfl rfl (by omega) (by omega)) rfl rfl (WL.val (run_gtr rfl rfl) rfl rfl ?_)))))))
  refine WL.val (run_pickF rfl) rfl rfl (WL.nil ?_)
  refine W.condIf rfl (fun c2 => ?_) (fun c2 => ?_)
  ·
   refine W.seq (W.region (WL.val run_assign rfl rfl (WL.val run_assign rfl rfl (WL.nil (W.ret (bodyQ.r2 (v1 := .int .u64 _) (v2 := .bool _) Tryz.results80 rfl rfl ?_))))))
   exact .inr ⟨by omega, rfl, h⟩
  refine W.skip (W.seq ?_)
  have hok : (1 ≤ n ∧ n ≤ 8 ∧ 0 ≤ at_ ∧ at_ ≤ bs.length ∧ n ≤ bs.length - at_) := by omega
  have ob_ := Int.eq_ofNat_of_zero_le (show 0 ≤ at_ by omega)
  obtain ⟨p, rfl⟩ := ob_
  have ob_ := Int.eq_ofNat_of_zero_le (show 0 ≤ n by omega)
  obtain ⟨q, rfl⟩ := ob_
  have hpq : p + q ≤ bs.length := by omega
  have ob_ := cut_bytes (l := p) (h := p + q) C hbc (by omega) hpq
  obtain ⟨a', c', hcut, gC⟩ := ob_
  have hpl : ((bs.drop p).take (p + q - p)).length = q := by rw [List.length_take, List.length_drop]; omega
  have epq : p + q - p = q := by omega
  rw [epq] at hcut gC hpl
  refine W.region (WL.val run_assign rfl rfl (WL.nil (W.seq (W.seq (W.region (WL.val run_move rfl rfl (WL.val run_move rfl rfl ?_)))))))
  refine WL.val run_move rfl rfl (WL.val run_move rfl rfl (WL.val (run_addN (m := p) (n := q) rfl rfl (by omega)) rfl rfl (WL.val (run_cutLHV (l := p) (h := p + q) Tryz.underlying22 Tryz.sizeOf5 rfl rfl rfl (by omega) (by omega) hcut) rfl rfl (WL.val (run_lenSlice Tryz.underlying22 rfl) rfl rfl (WL.val run_move rfl rfl (WL.nil (W.block ?_)))))))
  refine W.loop (fun (k : Nat) env w => k ≤ q ∧ ∃ j, env = mkE j [(8, .int .u64 (beV ((bs.drop p).take k) : Nat)), (40, .slice a' ((bs.drop p).take q).length c'), (41, .int .i64 (((bs.drop p).take q).length : Nat)), (42, .int .i64 (k : Nat))] ∧ On W0 L w) (fun k => q - k) (0) ?_ ?_
  · exact ⟨Nat.zero_le _, _, mkE_of ⟨rfl, rfl, rfl, rfl, trivial⟩, h⟩
  rintro k env w ⟨hk, j, rfl, h⟩
  refine W.seq (W.region (WL.val (run_lss rfl rfl) rfl rfl (WL.nil (W.seq ?_))))
  refine W.condIf rfl (fun c11 => ?_) (fun c11 => ?_)
  ·
   refine W.skip (W.seq (W.block (W.seq ?_)))
   have hkq : k < q := by omega
   have ob_ : ∃ c, ((bs.drop p).take q)[k]? = some c := ⟨((bs.drop p).take q)[k]'(by omega), List.getElem?_eq_getElem _⟩
   obtain ⟨c, hc⟩ := ob_
   have hc2 : (bs.drop p)[k]? = some c := by rw [List.getElem?_take, if_pos hkq] at hc; exact hc
   have gg := h.readsTo gC
   have ob_ := Cells.addr gg (by omega)
   obtain ⟨ba, oa, haa⟩ := ob_
   subst haa
   have hlt : beV ((bs.drop p).take k) < 2 ^ 56 := by
     have h1 := beV_lt ((bs.drop p).take k)
     have h2 : ((bs.drop p).take k).length ≤ 7 := by rw [List.length_take]; omega
     have h3 : 256 ^ ((bs.drop p).take k).length ≤ 256 ^ 7 := Nat.pow_le_pow_right (by decide) h2
     omega
   have hstep : beV ((bs.drop p).take (k + 1)) = beV ((bs.drop p).take k) * 2 ^ 8 ||| c.toNat := by
     rw [Go.Sl.take_snoc hc2, beV_snoc, show (2 : Nat) ^ 8 = 256 from rfl, or_byte]
   have hc8 := c.toNat_lt
   have hb1 : beV ((bs.drop p).take k) * 2 ^ 8 ≤ 18446744073709551615 := by omega
   have hb2 : c.toNat ≤ 18446744073709551615 := by omega
   have hb3 : beV ((bs.drop p).take k) * 2 ^ 8 ||| c.toNat ≤ 18446744073709551615 := by
     rw [← hstep]
     have h1 := beV_lt ((bs.drop p).take (k + 1))
     have h2 : ((bs.drop p).take (k + 1)).length ≤ 8 := by rw [List.length_take]; omega
     have h3 : 256 ^ ((bs.drop p).take (k + 1)).length ≤ 256 ^ 8 := Nat.pow_le_pow_right (by decide) h2
     omega
   refine W.region (WL.val (run_indexAddr Tryz.underlying22 Tryz.sizeOf5 rfl rfl (by omega) (by omega)) rfl rfl (WL.val (run_load1 Tryz.isAgg5 rfl ((h.readsTo gC).elem (i := k) (vs := [.int .u8 (c.toNat : Int)]) (by omega) (bytes_row hc) 0 _ rfl)) rfl rfl (WL.val run_assign rfl rfl (WL.nil (W.region (WL.val run_move rfl rfl (WL.val (run_shlN (m := beV ((bs.drop p).take k)) (j := 8) rfl rfl (by decide) (Int.ofNat_le.2 hb1)) rfl rfl ?_)))))))
   refine WL.val run_move rfl rfl (WL.val (run_convIn Tryz.underlying5 Tryz.underlying23 rfl (by show (0 : Int) ≤ _; omega) (Int.ofNat_le.2 hb2)) rfl rfl (WL.val (run_orN (k := .u64) (m := beV ((bs.drop p).take k) * 2 ^ 8) (n := c.toNat) rfl rfl (Int.ofNat_le.2 hb1) (Int.ofNat_le.2 hb2) (Int.ofNat_le.2 hb3)) rfl rfl (WL.val run_assign rfl rfl (WL.nil (W.region (WL.val (run_add rfl rfl (by omega) (by omega)) rfl rfl (WL.val run_move rfl rfl ?_)))))))
   refine WL.nil ?_
   exact ⟨k + 1, ⟨by omega, _, mkE_of ⟨(congrArg (fun z : Nat => Value.int .u64 (z : Int)) hstep).symm, rfl, rfl, rfl, trivial⟩, h⟩, by show q - (k + 1) < q - k; omega⟩
  refine W.exit (W.seq (W.region (WL.val run_move rfl rfl (WL.val run_assign rfl rfl (WL.val run_assign rfl rfl (WL.nil (W.ret ?_)))))))
  refine bodyQ.r2 (v1 := .int .u64 _) (v2 := .bool _) Tryz.results80 rfl rfl ?_
  have ob_ : k = q := by omega
  obtain rfl := ob_
  exact .inl ⟨hok, rfl, h⟩

theorem bequal_ok {ax : Option Addr} {cx : Nat} {bs : List UInt8} {ay : Option Addr} {cy : Nat} {cs : List UInt8} (h : On W0 L w) (C : Gives L (Bytes (.slice ax bs.length cx) bs)) (C2 : Gives L (Bytes (.slice ay cs.length cy) cs)) : Calls Tryz.prog 34 #[.slice ax bs.length cx, .slice ay cs.length cy] w (Ret fun v w' => v = .bool (decide (bs = cs)) ∧ On W0 L w') := by
  refine enter Tryz.func34 rfl Tryz.ntmps34 rfl (W.seq (W.region (WL.val run_assign rfl rfl (WL.nil (W.seq (W.region (WL.val run_move rfl rfl ?_)))))))
  refine WL.val (run_bytesStr Tryz.underlying22 Tryz.underlying5 Tryz.underlying9 rfl (h.readsTo C)) rfl rfl (WL.val run_move rfl rfl (WL.val (run_bytesStr Tryz.underlying22 Tryz.underlying5 Tryz.underlying9 rfl (h.readsTo C2)) rfl rfl (WL.val (run_eqlStr rfl rfl) rfl rfl (WL.val run_assign rfl rfl (WL.nil (W.ret (bodyQ.r1 (v := .bool _) Tryz.results34 rfl ?_)))))))
  exact ⟨congrArg Value.bool (decide_eq_decide.2 (by simp only [Go.ByteArray.toList_eq])), h⟩

theorem clone_ints {ao : Option Addr} {cap : Nat} {l : List Int} (h : On W0 L w) (C : Gives L (Cells 1 (.slice ao l.length cap) l.length (cV l))) (hn : l.length ≤ 1000000000000) :
    Calls Tryz.prog 45 #[.slice ao l.length cap] w (Ret fun v w' => ∃ a c, v = .slice a l.length c ∧ On W0 (Own 1 (.slice a l.length c) l.length (cV l) :: L) w') := by
  refine enter Tryz.func45 rfl Tryz.ntmps45 rfl ?_
  have ob_ := (h.reads C).form
  obtain ⟨ao', cap', hv, hnc, hcm, hnone⟩ := ob_
  simp only [Value.slice.injEq] at hv
  obtain ⟨rfl, _, rfl⟩ := hv
  have hl := maxLen_eq
  refine W.seq (W.region (WL.val run_assign rfl rfl (WL.nil (W.seq (W.seq (W.region (WL.val run_move rfl rfl ?_)))))))
  refine WL.val (run_eqlSliceNil Tryz.underlying43 rfl rfl) rfl rfl (WL.nil ?_)
  refine W.condB rfl (fun c2 => ?_) (fun c2 => ?_)
  ·
   refine W.seq (W.region (WL.val run_assign rfl rfl (WL.nil (W.ret (bodyQ.r1 (v := .slice _ _ _) Tryz.results45 rfl ?_)))))
   have h0 : cap = 0 := hnone (by simpa using c2)
   have hb : l = [] := List.eq_nil_of_length_eq_zero (by omega)
   subst hb
   exact ⟨none, 0, rfl, h.ownEmpty 1 none⟩
  refine W.skip (W.seq (W.region (WL.eff (eff_mkSlice (zl := []) (out := []) h Tryz.underlying43 Tryz.sizeOf3 Tryz.zeroValue3 (by decide) (by simp) rfl rfl (by simp) (trivial) rfl rfl (by simp [maxLen])) rfl rfl ?_)))
  rintro _ w ⟨b5, rfl, h⟩
  refine WL.val run_move rfl rfl (WL.eff (eff_app0 (bytes := 8) h rfl rfl (h.readsTo C) Tryz.underlying43 rfl rfl rfl rfl rfl (by omega) (by omega) (cV_one)) rfl rfl ?_)
  rintro _ w ⟨a, c, rfl, h⟩
  refine WL.val run_assign rfl rfl (WL.nil (W.ret (bodyQ.r1 (v := .slice _ _ _) Tryz.results45 rfl ?_)))
  exact ⟨_, _, rfl, h⟩

theorem clip_ints {a : Option Addr} {n c : Nat} {xs : List Value} (h : On W0 (Own 1 (.slice a n c) n xs :: L) w) :
    Calls Tryz.prog 44 #[.slice a n c] w (Ret fun v w' => v = .slice a n n ∧ On W0 (Own 1 (.slice a n n) n xs :: L) w') := by
  refine enter Tryz.func44 rfl Tryz.ntmps44 rfl ?_
  have ob_ := Own.form h
  obtain ⟨a', c', hv, hnc, hcm, hnone⟩ := ob_
  simp only [Value.slice.injEq] at hv
  obtain ⟨rfl, _, rfl⟩ := hv
  refine W.seq (W.region (WL.val run_assign rfl rfl (WL.nil (W.seq (W.region (WL.val run_move rfl rfl (WL.val run_move rfl rfl ?_)))))))
  refine WL.val (run_lenSlice Tryz.underlying43 rfl) rfl rfl (WL.val run_move rfl rfl (WL.val (run_lenSlice Tryz.underlying43 rfl) rfl rfl (WL.val (run_cutHM Tryz.underlying43 Tryz.sizeOf3 rfl rfl rfl  (by omega) (by omega)) rfl rfl (WL.val run_assign rfl rfl (WL.nil (W.ret (bodyQ.r1 (v := .slice _ _ _) Tryz.results44 rfl ?_)))))))
  exact ⟨rfl, Own.clip h⟩

theorem index_ints {ao : Option Addr} {cap : Nat} {l : List Int} {x : Int} (h : On W0 L w) (C : Gives L (Cells 1 (.slice ao l.length cap) l.length (cV l))) : Calls Tryz.prog 158 #[.slice ao l.length cap, .int .i64 x] w (Ret fun v w' => (∃ z : Int, v = .int .i64 z ∧ (0 ≤ z ↔ x ∈ l)) ∧ On W0 L w') := by
  refine enter Tryz.func158 rfl Tryz.ntmps158 rfl ?_
  have hmx := maxLen_eq
  have ob_ := (h.readsTo C).bounds
  obtain ⟨hbc, hbm⟩ := ob_
  refine W.seq (W.region (WL.val run_assign rfl rfl (WL.nil (W.seq (W.seq (W.region (WL.val run_move rfl rfl ?_)))))))
  refine WL.val (run_lenSlice Tryz.underlying43 rfl) rfl rfl (WL.val run_move rfl rfl (WL.nil (W.block ?_)))
  refine W.loop (fun (k : Nat) env w => k ≤ l.length ∧ ∃ j, env = mkE j [(0, .slice ao l.length cap), (1, .int .i64 x), (7, .int .i64 (l.length : Nat)), (8, .int .i64 (k : Nat))] ∧ (∀ q, q < k → l[q]? ≠ some x) ∧ On W0 L w) (fun k => l.length - k) (0) ?_ ?_
  · exact ⟨Nat.zero_le _, _, mkE_of ⟨rfl, rfl, rfl, rfl, trivial⟩, (fun q hq => by omega), h⟩
  rintro k env w ⟨hk, j, rfl, hno, h⟩
  refine W.seq (W.region (WL.val (run_lss rfl rfl) rfl rfl (WL.nil (W.seq ?_))))
  refine W.condIf rfl (fun c5 => ?_) (fun c5 => ?_)
  ·
   refine W.skip (W.seq ?_)
   have ob_ : ∃ y, l[k]? = some y := ⟨l[k]'(by omega), by simp⟩
   obtain ⟨y, hy⟩ := ob_
   have ob_ := (h.readsTo C).addr (by omega)
   obtain ⟨bx, ox, rfl⟩ := ob_
   refine W.block (W.seq (W.region (WL.val run_move rfl rfl (WL.val run_assign rfl rfl (WL.nil (W.seq (W.region ?_)))))))
   refine WL.val run_move rfl rfl (WL.val run_move rfl rfl (WL.val run_move rfl rfl (WL.val (run_indexAddr Tryz.underlying43 Tryz.sizeOf3 rfl rfl (by omega) (by omega)) rfl rfl (WL.val (run_load1 Tryz.isAgg3 rfl ((h.readsTo C).elem (i := k) (vs := [.int .i64 y]) (by omega) (cV_get hy) 0 _ rfl)) rfl rfl (WL.val (run_eql rfl rfl) rfl rfl (WL.nil ?_))))))
   refine W.condIf rfl (fun c11 => ?_) (fun c11 => ?_)
   ·
    refine W.seq (W.region (WL.val run_move rfl rfl (WL.val run_assign rfl rfl (WL.nil (W.ret (bodyQ.r1 (v := .int .i64 _) Tryz.results158 rfl ?_))))))
    have e : x = y := c11
    subst e
    exact ⟨⟨_, rfl, iff_of_true (by omega) (List.mem_of_getElem? hy)⟩, h⟩
   refine W.skip (W.region (WL.val (run_incN rfl rfl (by omega)) rfl rfl (WL.val run_move rfl rfl (WL.nil ?_))))
   exact ⟨k + 1, ⟨by omega, _, mkE_of ⟨rfl, rfl, rfl, rfl, trivial⟩, (fun q hq => by
     by_cases hqk : q = k
     · subst hqk; rw [hy]; intro e; simp only [Option.some.injEq] at e; exact c11 e.symm
     · exact hno q (by omega)), h⟩, by show l.length - (k + 1) < l.length - k; omega⟩
  refine W.exit (W.seq (W.region (WL.val run_assign rfl rfl (WL.nil (W.ret (bodyQ.r1 (v := .int .i64 _) Tryz.results158 rfl ?_))))))
  refine ⟨⟨_, rfl, iff_of_false (by decide) (fun hm => ?_)⟩, h⟩
  have ob_ := List.getElem?_of_mem hm
  obtain ⟨q, hq⟩ := ob_
  exact hno q (by have := (List.getElem?_eq_some_iff.1 hq).1; omega) hq

theorem contains_ints {ao : Option Addr} {cap : Nat} {l : List Int} {x : Int} (h : On W0 L w) (C : Gives L (Cells 1 (.slice ao l.length cap) l.length (cV l))) : Calls Tryz.prog 147 #[.slice ao l.length cap, .int .i64 x] w (Ret fun v w' => v = .bool (decide (x ∈ l)) ∧ On W0 L w') := by
  refine enter Tryz.func147 rfl Tryz.ntmps147 rfl (W.seq (W.region (WL.val run_assign rfl rfl (WL.nil (W.seq (W.region (WL.val run_move rfl rfl ?_)))))))
  refine WL.val run_move rfl rfl (WL.eff (eff_call Tryz.call158 (index_ints h C)) rfl rfl ?_)
  rintro _ w ⟨⟨z, rfl, hz⟩, h⟩
  refine WL.val (run_geq rfl rfl) rfl rfl (WL.val run_assign rfl rfl (WL.nil (W.ret (bodyQ.r1 (v := .bool _) Tryz.results147 rfl ?_))))
  exact ⟨congrArg Value.bool (decide_eq_decide.2 hz), h⟩

theorem sgood_ok {ax : Option Addr} {cx : Nat} {bs : List UInt8} (h : On W0 L w) (C : Gives L (Bytes (.slice ax bs.length cx) bs)) (hn : bs.length ≤ 1000000000000) : Calls Tryz.prog 38 #[.slice ax bs.length cx] w (Ret fun v w' => ∃ a, v = (gave bs).val (.slice a bs.length bs.length) ∧ On W0 (OwnB (.slice a bs.length bs.length) bs :: L) w') := by
  refine enter Tryz.func38 rfl Tryz.ntmps38 rfl (W.seq (W.region (WL.eff (eff_alloc h Tryz.zeroValue36 rfl) rfl rfl ?_)))
  rintro _ w ⟨b2, rfl, h⟩
  refine WL.nil (W.seq (W.region (WL.val run_move rfl rfl (WL.eff (eff_call Tryz.call85 (clone_bytes (bs := bs) h (Gives.to C) (by omega))) rfl rfl ?_))))
  rintro _ w ⟨a4, c4, rfl, h⟩
  refine WL.eff (eff_call Tryz.call79 (clip_bytes h)) rfl rfl ?_
  rintro _ w ⟨rfl, h⟩
  refine WL.val (run_buildS (pl := [(0, 1), (1, 1), (2, 1), (3, 1), (4, 1)]) (out := [.int .i64 _, .int .i64 _, .int .i64 _, .slice _ _ _, .int .i64 _]) Tryz.underlying36 Tryz.zeroValue36 (fun w => by kernel_rfl) rfl (⟨⟨_, _, rfl, rfl, by decide⟩, ⟨⟨_, _, rfl, rfl, by decide⟩, trivial⟩⟩) rfl) rfl rfl (WL.eff (eff_storeW (vs := [.int .i64 _, .int .i64 _, .int .i64 _, .slice _ _ _, .int .i64 _]) h Tryz.sizeOf36 rfl rfl rfl rfl rfl) rfl rfl ?_)
  rintro _ w h
  refine WL.nil (W.ret (bodyQ.rcB (vs := [.int .i64 _, .int .i64 _, .int .i64 _, .slice _ _ _, .int .i64 _]) h Tryz.results38 Tryz.isAgg36 Tryz.sizeOf36 rfl rfl rfl ?_))
  exact ⟨a4, rfl, h.to⟩

theorem laid1_ok {bx bo n k at_ cy : Nat} {ay : Option Addr} {xs ys : List UInt8} (hat : at_ < n) (hk : ys.length = k) (hin : at_ + k ≤ n) (hn : n ≤ 1000) (h : On W0 (blk bx [.slice (some ⟨bo, 0, none⟩) n n] 22 :: Own 1 (.slice (some ⟨bo, 0, none⟩) n n) n (bytesV xs) :: L) w) (C : Gives L (Bytes (.slice ay ys.length cy) ys)) : Calls Tryz.prog 132 #[.int .i64 (at_ : Int), .slice ay k cy, .pointer (some ⟨bx, 0, none⟩)] w (Ret fun v w' => On W0 (blk bx [.slice (some ⟨bo, 0, none⟩) n n] 22 :: Own 1 (.slice (some ⟨bo, 0, none⟩) n n) n (bytesV (over xs at_ ys)) :: L) w') := by
  refine enter Tryz.func132 rfl Tryz.ntmps132 rfl ?_
  subst hk
  have ob_ := sliced_part (b := bo) (o := 0) (lo := at_) (hi := n) (c := n) (by omega) (Nat.le_refl _)
  obtain ⟨lo, hlo, hlo2⟩ := ob_
  have hlo3 : lo = at_ := by omega
  subst hlo3
  refine W.region (WL.val (run_load1 Tryz.isAgg22 rfl (h.cellB rfl)) rfl rfl (WL.val run_move rfl rfl (WL.val (run_cutLV Tryz.underlying22 Tryz.sizeOf5 rfl rfl (by omega) hlo) rfl rfl (WL.val run_move rfl rfl (WL.eff (eff_copyIn (lo := lo) (m := n - lo) h.p1 rfl rfl (h.readsTo C) rfl Tryz.underlying22 Tryz.sizeOf5 (by omega) bytes_one) rfl rfl ?_)))))
  rintro _ w ⟨_, h⟩
  rw [List.take_of_length_le (by simp; omega), bytesV_over] at h
  refine WL.nil (bodyQ.fall (bodyQ.r0 Tryz.results132 ?_))
  exact h.to

end Go.Proofs.YtdpakoefdpmebaaGreat
