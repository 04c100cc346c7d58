/-
  A compare and write of blocks. Lines of walks printed by a program of the prover's.
-/
import Derived.Test.YtdpakoefdpmebaaGreatSpace
import Derived.Test.YtdpakoefdpmebaaGreatSpaceMore
namespace Go.Proofs.YtdpakoefdpmebaaGreat
open Go Go.Sl Go.Sl.BitM Go.Sl.SpM
set_option linter.unusedVariables false
set_option linter.unusedSimpArgs false
set_option maxHeartbeats 4000000
set_option maxRecDepth 8000
variable {W0 w : World} {L F : List HProp}


theorem cut_gives {a : Option Addr} {c : Nat} {bs : List UInt8} {k : Nat} (C : Gives L (Bytes (.slice a bs.length c) bs)) (hk : k ≤ bs.length) (hc : bs.length ≤ c) :
    ∃ a' c', sliced a k bs.length c 1 = .slice a' (bs.drop k).length c' ∧ Gives L (Bytes (.slice a' (bs.drop k).length c') (bs.drop k)) := by
  refine ⟨if c = k then a else a.map (·.add (k * 1)), c - k, by rw [List.length_drop]; rfl, fun h H => ?_⟩
  have c1 := (C h H).cut (l := k) (h := bs.length) (m := c) hk (Nat.le_refl _) hc (Nat.le_refl _)
  have e1 : ((bytesV bs).drop (k * 1)).take ((bs.length - k) * 1) = bytesV (bs.drop k) := by
    rw [Nat.mul_one, Nat.mul_one, List.take_of_length_le (by simp)]
    simp [bytesV, List.map_drop]
  rw [e1] at c1
  have e2 : sliced a k bs.length c 1 = .slice (if c = k then a else a.map (·.add (k * 1))) (bs.drop k).length (c - k) := by rw [List.length_drop]; rfl
  rw [e2] at c1
  rw [← List.length_drop] at c1
  exact c1

theorem compare_ok {b : Nat} {s : Sp} {at_ : Int} {ax : Option Addr} {cx : Nat} {bs : List UInt8} (h : On W0 (SpP 146 b s :: L) w) (C : Gives L (Bytes (.slice ax bs.length cx) bs)) : Calls Tryz.prog 137 #[.pointer (some ⟨b, 0, none⟩), .int .i64 at_, .slice ax bs.length cx] w (Ret fun v w' =>
    (∃ p q : Nat, at_ = p ∧ bs.length = 16 * q ∧ p + q ≤ s.N ∧ q ≤ 32 ∧
      ((partS s p q = bs.take (8 * q) ∧ v = .tuple #[.int .i64 (-1), .int .i64 0] ∧ On W0 (SpP 146 b (writeS s p (bs.drop (8 * q))) :: L) w') ∨
       (∃ i : Nat, i < 8 * q ∧ (partS s p q)[i]? ≠ bs[i]? ∧ (∀ j, j < i → (partS s p q)[j]? = bs[j]?) ∧ v = .tuple #[.int .i64 (i : Int), .int .i64 0] ∧ On W0 (SpP 146 b s :: L) w'))) ∨
    (¬ (bs.length % 16 = 0 ∧ inS s at_ ((bs.length / 8 / 2 : Nat) : Int)) ∧ v = .tuple #[.int .i64 0, .int .i64 1] ∧ On W0 (SpP 146 b s :: L) w')) := by
  refine enter Tryz.func137 rfl Tryz.ntmps137 rfl ?_
  have ob_ := openS h
  obtain ⟨gd, od, cd, am, cm, hw, h⟩ := ob_
  have hwf := hw
  obtain ⟨hw1, hw2, hw3, hw4⟩ := hw
  have ob_ := Own.bounds h.p1
  obtain ⟨hdc, hdm⟩ := ob_
  have ob_ := (h.readsTo C).bounds
  obtain ⟨hxc, hxm⟩ := ob_
  have hmx := maxLen_eq
  refine W.seq (W.region (WL.val run_assign rfl rfl (WL.val run_assign rfl rfl (WL.nil (W.seq (W.region (WL.val run_move rfl rfl ?_)))))))
  refine WL.val (run_lenSlice Tryz.underlying22 rfl) rfl rfl (WL.val (run_quo rfl rfl (by omega) (by omega) (by omega)) rfl rfl (WL.val (run_quo rfl rfl (by omega) (by omega) (by omega)) rfl rfl (WL.val run_assign rfl rfl (WL.nil (W.seq (W.seq (W.region ?_)))))))
  refine WL.val run_move rfl rfl (WL.val (run_lenSlice Tryz.underlying22 rfl) rfl rfl (WL.val (run_rem rfl rfl (by omega) (by omega)) rfl rfl ?_))
  refine WL.dec (run_neq rfl rfl) rfl rfl (fun c18 => ?_) (fun c18 => ?_)
  ·
   refine WL.val run_move rfl rfl (WL.skip rfl rfl (WL.skip rfl rfl (WL.skip rfl rfl (WL.skip rfl rfl (WL.skip rfl rfl (WL.val (run_pickT rfl) rfl rfl (WL.nil ?_)))))))
   refine W.condT rfl (W.seq (W.region (WL.val run_assign rfl rfl (WL.val run_assign rfl rfl (WL.nil (W.ret (bodyQ.r2 (v1 := .int .i64 _) (v2 := .int .i64 _) Tryz.results137 rfl rfl ?_)))))))
   exact .inr ⟨by omega, rfl, closeS (cd := cd) (cm := cm) (gd := gd) (od := od) (am := am) hwf h⟩
  refine WL.val run_move rfl rfl (WL.val run_move rfl rfl (WL.val run_move rfl rfl (WL.val run_move rfl rfl (WL.eff (eff_call Tryz.call133 (in_s (n := ((bs.length / 8 / 2 : Nat) : Int)) hw3 h)) rfl rfl ?_))))
  rintro _ w ⟨hv, h⟩
  rcases hv with ⟨rfl, hi⟩ | ⟨rfl, hi⟩
  ·
   refine WL.val (run_not rfl) rfl rfl (WL.val (run_pickF rfl) rfl rfl (WL.nil (W.condF rfl (W.skip (W.seq (W.seq ?_))))))
   have ob_ := Int.eq_ofNat_of_zero_le (show 0 ≤ at_ by omega)
   obtain ⟨p, rfl⟩ := ob_
   have ob_ : ∃ q, bs.length = 16 * q := ⟨bs.length / 16, by omega⟩
   obtain ⟨q, hqq⟩ := ob_
   have hq2 : bs.length / 8 / 2 = q := by omega
   rw [hq2] at hi
   have ob_ := sliced_part (b := gd) (o := od) (show p * 8 ≤ (p + q) * 8 by omega) (show (p + q) * 8 ≤ cd by omega)
   obtain ⟨lo, hlo, hlo2⟩ := ob_
   have hpl : (partS s p q).length = (p + q) * 8 - p * 8 := by unfold partS; rw [List.length_take, List.length_drop]; omega
   refine W.region (WL.val run_move rfl rfl (WL.val run_move rfl rfl (WL.val run_move rfl rfl (WL.eff (eff_call Tryz.call82 (part_ok (at_ := p) (n := bs.length / 8 / 2) hw3 (by omega) hdc h)) rfl rfl ?_))))
   rintro _ w ⟨hv, h⟩
   rw [hq2, hlo, ← hpl] at hv
   subst hv
   have CP : ∀ L' : List HProp, Gives L' (Cells 1 (.slice (some ⟨gd, od, none⟩) (8 * s.N) cd) (8 * s.N) (bytesV s.d)) → Gives L' (Bytes (.slice (some ⟨gd, od + lo, none⟩) (partS s p q).length (cd - p * 8)) (partS s p q)) := fun L' gg hh H => by
     have c1 := (gg hh H).cut (l := p * 8) (h := (p + q) * 8) (m := cd) (by omega) (by omega) (by omega) (by omega)
     rw [hlo, ← hpl] at c1
     have e1 : ((bytesV s.d).drop (p * 8 * 1)).take ((partS s p q).length * 1) = bytesV (partS s p q) := by
       rw [hpl, Nat.mul_one, Nat.mul_one]
       unfold partS bytesV
       rw [List.map_take, List.map_drop, Nat.mul_comm p 8, show (p + q) * 8 - 8 * p = 8 * q by omega]
     rw [e1] at c1
     exact c1
   refine WL.val (run_lenSlice Tryz.underlying22 rfl) rfl rfl (WL.val run_move rfl rfl (WL.nil (W.block ?_)))
   refine W.loop (fun (k : Nat) env w => ∃ j, env = mkE j [(0, .pointer (some ⟨b, 0, none⟩)), (1, .int .i64 (p : Int)), (2, .slice ax bs.length cx), (8, .int .i64 (q : Int)), (29, .slice (some ⟨gd, od + lo, none⟩) (partS s p q).length (cd - p * 8)), (30, .int .i64 (((partS s p q).length : Nat) : Int)), (31, .int .i64 (k : Int))] ∧ k ≤ (partS s p q).length ∧ (∀ j, j < k → (partS s p q)[j]? = bs[j]?) ∧ On W0 (blk b [.int .i64 (s.N : Int), .slice (some ⟨gd, od, none⟩) (8 * s.N) cd, .slice am s.m.length cm] 146 :: Own 1 (.slice (some ⟨gd, od, none⟩) (8 * s.N) cd) (8 * s.N) (bytesV s.d) :: Own 1 (.slice am s.m.length cm) s.m.length (bytesV s.m) :: L) w) (fun k => (partS s p q).length - k) (0) ?_ ?_
   · exact ⟨_, mkE_of ⟨rfl, rfl, rfl, (by show Value.int .i64 ((bs.length / 8 / 2 : Nat) : Int) = _; rw [hq2]), rfl, rfl, rfl, trivial⟩, Nat.zero_le _, (fun j hj => by omega), h⟩
   rintro k env w ⟨j, rfl, hk, hsame, h⟩
   refine W.seq (W.region (WL.val (run_lss rfl rfl) rfl rfl (WL.nil (W.seq ?_))))
   refine W.condIf rfl (fun c11 => ?_) (fun c11 => ?_)
   ·
    refine W.skip (W.seq (W.block (W.seq ?_)))
    have ob_ : ∃ x, (partS s p q)[k]? = some x := ⟨(partS s p q)[k]'(by omega), by simp⟩
    obtain ⟨x, hx⟩ := ob_
    have ob_ : ∃ y, bs[k]? = some y := ⟨bs[k]'(by omega), by simp⟩
    obtain ⟨y, hy⟩ := ob_
    have ob_ := (h.readsTo C).addr (by omega)
    obtain ⟨bx, ox, rfl⟩ := ob_
    refine W.region (WL.val run_move rfl rfl (WL.val (run_indexAddr Tryz.underlying22 Tryz.sizeOf5 rfl rfl (by omega) (by omega)) rfl rfl (WL.val (run_load1 Tryz.isAgg5 rfl ((CP _ (Gives.ownO (v := .slice (some ⟨gd, od, none⟩) (8 * s.N) cd)) _ h.sat).elem (i := k) (vs := [.int .u8 x.toNat]) (by omega) (bytes_row hx) 0 _ rfl)) rfl rfl (WL.val run_assign rfl rfl (WL.val run_assign rfl rfl (WL.nil (W.seq ?_)))))))
    refine W.region (WL.val run_move rfl rfl (WL.val run_move rfl rfl (WL.val run_move rfl rfl (WL.val (run_indexAddr Tryz.underlying22 Tryz.sizeOf5 rfl rfl (by omega) (by omega)) rfl rfl (WL.val (run_load1 Tryz.isAgg5 rfl ((h.readsTo C).elem (i := k) (vs := [.int .u8 y.toNat]) (by omega) (bytes_row hy) 0 _ rfl)) rfl rfl (WL.val (run_neq rfl rfl) rfl rfl (WL.nil ?_)))))))
    refine W.condIf rfl (fun c17 => ?_) (fun c17 => ?_)
    ·
     refine W.seq (W.region (WL.val run_move rfl rfl (WL.val run_assign rfl rfl (WL.val run_assign rfl rfl (WL.nil (W.ret (bodyQ.r2 (v1 := .int .i64 _) (v2 := .int .i64 _) Tryz.results137 rfl rfl ?_)))))))
     refine .inl ⟨p, q, rfl, hqq, by omega, by omega, .inr ⟨k, by omega, ?_, hsame, rfl, closeS (cd := cd) (cm := cm) (gd := gd) (od := od) (am := am) hwf h⟩⟩
     rw [hx, hy]
     intro hh
     simp only [Option.some.injEq] at hh
     subst hh
     exact c17 rfl
    refine W.skip (W.region (WL.val (run_incN rfl rfl (by omega)) rfl rfl (WL.val run_move rfl rfl (WL.nil ?_))))
    exact ⟨k + 1, ⟨_, mkE_of ⟨rfl, rfl, rfl, rfl, rfl, rfl, rfl, trivial⟩, by omega, (fun j hj => by
      by_cases hjk : j = k
      · subst hjk; rw [hx, hy]; congr 1; exact UInt8.toNat_inj.1 (by omega)
      · exact hsame j (by omega)), h⟩, by show (partS s p q).length - (k + 1) < (partS s p q).length - k; omega⟩
   refine W.exit (W.seq ?_)
   have hall : partS s p q = bs.take (8 * q) := by
     have := prefix_eq (k := 8 * q) (xs := partS s p q) (ys := bs) (fun j hj => hsame j (by omega)) (by omega)
     exact this
   have ob_ := cut_gives (k := q * 8) C (by omega) hxc
   obtain ⟨a', c', hcut, CC⟩ := ob_
   rw [Nat.mul_comm q 8] at CC
   rw [show (bs.drop (q * 8)).length = (bs.drop (8 * q)).length by rw [Nat.mul_comm]] at hcut
   refine W.region (WL.val run_move rfl rfl (WL.val run_move rfl rfl (WL.val run_move rfl rfl (WL.val run_move rfl rfl (WL.val (run_mulN (m := q) (n := 8) rfl rfl (by omega)) rfl rfl (WL.val (run_cutLV Tryz.underlying22 Tryz.sizeOf5 rfl rfl (by omega) hcut) rfl rfl (WL.eff (eff_call Tryz.call135 (write_ok (s := s) (bs := bs.drop (8 * q)) (closeS (cd := cd) (cm := cm) (gd := gd) (od := od) (am := am) hwf h) CC)) rfl rfl ?_)))))))
   rintro _ w hv
   rcases hv with ⟨p', hp', hm1, hm2, hm3, rfl, h⟩ | ⟨hno, rfl, h⟩
   rotate_left
   · exfalso
     refine hno ⟨by rw [List.length_drop]; omega, ?_⟩
     rw [List.length_drop]
     unfold inS
     omega
   have ob_ : p = p' := by omega
   obtain rfl := ob_
   refine WL.nil (W.seq (W.region (WL.val run_assign rfl rfl (WL.val run_assign rfl rfl (WL.nil (W.ret (bodyQ.r2 (v1 := .int .i64 _) (v2 := .int .i64 _) Tryz.results137 rfl rfl ?_)))))))
   exact .inl ⟨p, q, rfl, hqq, by omega, by omega, .inl ⟨hall, rfl, h⟩⟩
  refine WL.val (run_not rfl) rfl rfl (WL.val (run_pickF rfl) rfl rfl (WL.nil (W.condT rfl (W.seq (W.region (WL.val run_assign rfl rfl (WL.val run_assign rfl rfl ?_)))))))
  refine WL.nil (W.ret (bodyQ.r2 (v1 := .int .i64 _) (v2 := .int .i64 _) Tryz.results137 rfl rfl ?_))
  exact .inr ⟨fun hh => hi hh.2, rfl, closeS (cd := cd) (cm := cm) (gd := gd) (od := od) (am := am) hwf h⟩

end Go.Proofs.YtdpakoefdpmebaaGreat
