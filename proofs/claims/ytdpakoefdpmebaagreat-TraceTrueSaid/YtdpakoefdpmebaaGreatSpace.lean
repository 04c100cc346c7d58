/-
  The contracts of the blocks. Lines of walks printed by a program of the prover's.
-/
import Derived.Test.YtdpakoefdpmebaaGreatBits
import Derived.Test.YtdpakoefdpmebaaGreatSpaceModel
namespace Go.Proofs.YtdpakoefdpmebaaGreat
open Go Go.Sl Go.Sl.BitM Go.Sl.SpM
set_option linter.unusedVariables false
set_option linter.unusedSimpArgs false
set_option maxHeartbeats 4000000
set_option maxRecDepth 8000
variable {W0 w : World} {L F : List HProp}

theorem clone_bytes {ao : Option Addr} {cap : Nat} {bs : List UInt8} (h : On W0 L w) (C : Gives L (Bytes (.slice ao bs.length cap) bs)) (hn : bs.length ≤ 140737488355328) :
    Calls Tryz.prog 85 #[.slice ao bs.length cap] w (Ret fun v w' => ∃ a c, v = .slice a bs.length c ∧ On W0 (OwnB (.slice a bs.length c) bs :: L) w') := by
  refine enter Tryz.func85 rfl Tryz.ntmps85 rfl ?_
  have ob_ := (h.reads C).form
  obtain ⟨ao', cap', hv, hnc, hcm, hnone⟩ := ob_
  simp only [Value.slice.injEq] at hv
  obtain ⟨rfl, _, rfl⟩ := hv
  have hl := maxLen_eq
  refine W.seq (W.region (WL.val run_assign rfl rfl (WL.nil (W.seq (W.seq (W.region (WL.val run_move rfl rfl ?_)))))))
  refine WL.val (run_eqlSliceNil Tryz.underlying22 rfl rfl) rfl rfl (WL.nil ?_)
  refine W.condB rfl (fun c2 => ?_) (fun c2 => ?_)
  ·
   refine W.seq (W.region (WL.val run_assign rfl rfl (WL.nil (W.ret (bodyQ.r1 (v := .slice _ _ _) Tryz.results85 rfl ?_)))))
   have h0 : cap = 0 := hnone (by simpa using c2)
   have hb : bs = [] := List.eq_nil_of_length_eq_zero (by omega)
   subst hb
   exact ⟨none, 0, rfl, h.ownEmpty 1 none⟩
  refine W.skip (W.seq (W.region (WL.eff (eff_mkSlice (zl := []) (out := []) h Tryz.underlying22 Tryz.sizeOf5 Tryz.zeroValue5 (by decide) (by simp) rfl rfl (by simp) (trivial) rfl rfl (by simp [maxLen])) rfl rfl ?_)))
  rintro _ w ⟨b5, rfl, h⟩
  refine WL.val run_move rfl rfl (WL.eff (eff_app0 (bytes := 1) h rfl rfl (h.readsTo C) Tryz.underlying22 rfl rfl rfl rfl rfl (by omega) (by omega) bytes_one) rfl rfl ?_)
  rintro _ w ⟨a, c, rfl, h⟩
  refine WL.val run_assign rfl rfl (WL.nil (W.ret (bodyQ.r1 (v := .slice _ _ _) Tryz.results85 rfl ?_)))
  exact ⟨_, _, rfl, h⟩

theorem clip_bytes {a : Option Addr} {n c : Nat} {xs : List Value} (h : On W0 (Own 1 (.slice a n c) n xs :: L) w) :
    Calls Tryz.prog 79 #[.slice a n c] w (Ret fun v w' => v = .slice a n n ∧ On W0 (Own 1 (.slice a n n) n xs :: L) w') := by
  refine enter Tryz.func79 rfl Tryz.ntmps79 rfl ?_
  have ob_ := Own.form h
  obtain ⟨a', c', hv, hnc, hcm, hnone⟩ := ob_
  simp only [Value.slice.injEq] at hv
  obtain ⟨rfl, _, rfl⟩ := hv
  refine W.seq (W.region (WL.val run_assign rfl rfl (WL.nil (W.seq (W.region (WL.val run_move rfl rfl (WL.val run_move rfl rfl ?_)))))))
  refine WL.val (run_lenSlice Tryz.underlying22 rfl) rfl rfl (WL.val run_move rfl rfl (WL.val (run_lenSlice Tryz.underlying22 rfl) rfl rfl (WL.val (run_cutHM Tryz.underlying22 Tryz.sizeOf5 rfl rfl rfl  (by omega) (by omega)) rfl rfl (WL.val run_assign rfl rfl (WL.nil (W.ret (bodyQ.r1 (v := .slice _ _ _) Tryz.results79 rfl ?_)))))))
  exact ⟨rfl, Own.clip h⟩

theorem in_s {b : Nat} {N : Nat} {cs : List Value} {e : Nat} {fr : Nat × Nat} {at_ n : Int} (hN : N ≤ 1024) (h : On W0 L w) [HasBlk L b (.int .i64 (N : Int) :: cs) e fr] :
    Calls Tryz.prog 133 #[.pointer (some ⟨b, 0, none⟩), .int .i64 at_, .int .i64 n] w (Ret fun v w' => ((v = .bool true ∧ 0 ≤ n ∧ n ≤ 32 ∧ 0 ≤ at_ ∧ at_ ≤ N ∧ n ≤ N - at_) ∨ (v = .bool false ∧ ¬ (0 ≤ n ∧ n ≤ 32 ∧ 0 ≤ at_ ∧ at_ ≤ N ∧ n ≤ N - at_))) ∧ On W0 L w') := by
  refine enter Tryz.func133 rfl Tryz.ntmps133 rfl (W.seq (W.region (WL.val run_assign rfl rfl (WL.nil (W.seq (W.region (WL.val run_move rfl rfl ?_)))))))
  refine WL.dec (run_geq rfl rfl) rfl rfl (fun c8 => ?_) (fun c8 => ?_)
  ·
   refine WL.val run_move rfl rfl (WL.val run_move rfl rfl ?_)
   refine WL.dec (run_leq rfl rfl) rfl rfl (fun c11 => ?_) (fun c11 => ?_)
   ·
    refine WL.val (run_pickT rfl) rfl rfl (WL.val run_move rfl rfl (WL.val run_move rfl rfl ?_))
    refine WL.dec (run_geq rfl rfl) rfl rfl (fun c15 => ?_) (fun c15 => ?_)
    ·
     refine WL.val (run_pickT rfl) rfl rfl (WL.val run_move rfl rfl (WL.val run_move rfl rfl (WL.val run_move rfl rfl (WL.val (run_nilCheck rfl) rfl rfl (WL.val (run_fieldAddr 0 Tryz.underlying146 rfl Tryz.sizeOf3 rfl rfl) rfl rfl (WL.val (run_load1 Tryz.isAgg3 rfl (h.cellB rfl)) rfl rfl ?_))))))
     refine WL.dec (run_leq rfl rfl) rfl rfl (fun c23 => ?_) (fun c23 => ?_)
     ·
      refine WL.val (run_pickT rfl) rfl rfl (WL.val run_move rfl rfl (WL.val run_move rfl rfl (WL.val run_move rfl rfl (WL.val (run_nilCheck rfl) rfl rfl (WL.val (run_fieldAddr 0 Tryz.underlying146 rfl Tryz.sizeOf3 rfl rfl) rfl rfl (WL.val (run_load1 Tryz.isAgg3 rfl (h.cellB rfl)) rfl rfl (WL.val run_move rfl rfl ?_)))))))
      refine WL.val (run_sub rfl rfl (by omega) (by omega)) rfl rfl ?_
      refine WL.dec (run_leq rfl rfl) rfl rfl (fun c33 => ?_) (fun c33 => ?_)
      ·
       refine WL.val (run_pickT rfl) rfl rfl (WL.val run_assign rfl rfl (WL.nil (W.ret (bodyQ.r1 (v := .bool _) Tryz.results133 rfl ?_))))
       exact ⟨.inl ⟨rfl, by omega, by omega, by omega, by omega, by omega⟩, h⟩
      refine WL.val (run_pickT rfl) rfl rfl (WL.val run_assign rfl rfl (WL.nil (W.ret (bodyQ.r1 (v := .bool _) Tryz.results133 rfl ?_))))
      exact ⟨.inr ⟨rfl, by omega⟩, h⟩
     refine WL.val (run_pickT rfl) rfl rfl (WL.val run_move rfl rfl (WL.skip rfl rfl (WL.skip rfl rfl (WL.skip rfl rfl (WL.skip rfl rfl (WL.skip rfl rfl (WL.skip rfl rfl ?_)))))))
     refine WL.skip rfl rfl (WL.skip rfl rfl (WL.val (run_pickF rfl) rfl rfl (WL.val run_assign rfl rfl (WL.nil (W.ret (bodyQ.r1 (v := .bool _) Tryz.results133 rfl ?_))))))
     exact ⟨.inr ⟨rfl, by omega⟩, h⟩
    refine WL.val (run_pickT rfl) rfl rfl (WL.val run_move rfl rfl (WL.skip rfl rfl (WL.skip rfl rfl (WL.skip rfl rfl (WL.skip rfl rfl (WL.skip rfl rfl (WL.skip rfl rfl ?_)))))))
    refine WL.val (run_pickF rfl) rfl rfl (WL.val run_move rfl rfl (WL.skip rfl rfl (WL.skip rfl rfl (WL.skip rfl rfl (WL.skip rfl rfl (WL.skip rfl rfl (WL.skip rfl rfl ?_)))))))
    refine WL.skip rfl rfl (WL.skip rfl rfl (WL.val (run_pickF rfl) rfl rfl (WL.val run_assign rfl rfl (WL.nil (W.ret (bodyQ.r1 (v := .bool _) Tryz.results133 rfl ?_))))))
    exact ⟨.inr ⟨rfl, by omega⟩, h⟩
   refine WL.val (run_pickT rfl) rfl rfl (WL.val run_move rfl rfl (WL.skip rfl rfl (WL.skip rfl rfl (WL.val (run_pickF rfl) rfl rfl (WL.val run_move rfl rfl (WL.skip rfl rfl (WL.skip rfl rfl ?_)))))))
   refine WL.skip rfl rfl (WL.skip rfl rfl (WL.skip rfl rfl (WL.skip rfl rfl (WL.val (run_pickF rfl) rfl rfl (WL.val run_move rfl rfl (WL.skip rfl rfl (WL.skip rfl rfl ?_)))))))
   refine WL.skip rfl rfl (WL.skip rfl rfl (WL.skip rfl rfl (WL.skip rfl rfl (WL.skip rfl rfl (WL.skip rfl rfl (WL.val (run_pickF rfl) rfl rfl (WL.val run_assign rfl rfl ?_)))))))
   refine WL.nil (W.ret (bodyQ.r1 (v := .bool _) Tryz.results133 rfl ?_))
   exact ⟨.inr ⟨rfl, by omega⟩, h⟩
  refine WL.val run_move rfl rfl (WL.skip rfl rfl (WL.skip rfl rfl (WL.val (run_pickF rfl) rfl rfl (WL.val run_move rfl rfl (WL.skip rfl rfl (WL.skip rfl rfl (WL.val (run_pickF rfl) rfl rfl ?_)))))))
  refine WL.val run_move rfl rfl (WL.skip rfl rfl (WL.skip rfl rfl (WL.skip rfl rfl (WL.skip rfl rfl (WL.skip rfl rfl (WL.skip rfl rfl (WL.val (run_pickF rfl) rfl rfl ?_)))))))
  refine WL.val run_move rfl rfl (WL.skip rfl rfl (WL.skip rfl rfl (WL.skip rfl rfl (WL.skip rfl rfl (WL.skip rfl rfl (WL.skip rfl rfl (WL.skip rfl rfl ?_)))))))
  refine WL.skip rfl rfl (WL.val (run_pickF rfl) rfl rfl (WL.val run_assign rfl rfl (WL.nil (W.ret (bodyQ.r1 (v := .bool _) Tryz.results133 rfl ?_)))))
  exact ⟨.inr ⟨rfl, by omega⟩, h⟩

theorem part_ok {b gd od cd N at_ n : Nat} {c0 : Value} {cs : List Value} {e : Nat} {fr : Nat × Nat} (hN : N ≤ 1024) (hb : at_ + n ≤ N) (hc : 8 * N ≤ cd) (h : On W0 L w) [HasBlk L b (c0 :: .slice (some ⟨gd, od, none⟩) (8 * N) cd :: cs) e fr] :
    Calls Tryz.prog 82 #[.pointer (some ⟨b, 0, none⟩), .int .i64 (at_ : Int), .int .i64 (n : Int)] w (Ret fun v w' => v = sliced (some ⟨gd, od, none⟩) (at_ * 8) ((at_ + n) * 8) cd 1 ∧ On W0 L w') := by
  refine enter Tryz.func82 rfl Tryz.ntmps82 rfl (W.seq (W.region (WL.val run_assign rfl rfl (WL.nil (W.seq (W.region (WL.val run_move rfl rfl ?_)))))))
  refine WL.val (run_nilCheck rfl) rfl rfl (WL.val (run_fieldAddr 1 Tryz.underlying146 rfl Tryz.sizeOf22 rfl rfl) rfl rfl (WL.val (run_load1 Tryz.isAgg22 rfl (h.cellB rfl)) rfl rfl (WL.val run_move rfl rfl (WL.val (run_mulN (m := at_) (n := 8) rfl rfl (by omega)) rfl rfl (WL.val run_move rfl rfl (WL.val run_move rfl rfl (WL.val (run_addN (m := at_) (n := n) rfl rfl (by omega)) rfl rfl ?_)))))))
  refine WL.val (run_mulN (m := at_ + n) (n := 8) rfl rfl (by omega)) rfl rfl (WL.val (run_cutLH Tryz.underlying22 Tryz.sizeOf5 rfl rfl rfl  (by omega) (by omega)) rfl rfl (WL.val run_assign rfl rfl (WL.nil (W.ret (bodyQ.r1 (v := .slice _ _ _) Tryz.results82 rfl ?_)))))
  exact ⟨rfl, h⟩

theorem unmap_ok {b : Nat} {s : Sp} {at_ n : Int} (h : On W0 (SpP 146 b s :: L) w) : Calls Tryz.prog 136 #[.pointer (some ⟨b, 0, none⟩), .int .i64 at_, .int .i64 n] w (Ret fun v w' =>
    (∃ p q : Nat, at_ = p ∧ n = q ∧ p + q ≤ s.N ∧ q ≤ 32 ∧ v = .int .i64 0 ∧ On W0 (SpP 146 b (unmapS s p q) :: L) w') ∨ (¬ inS s at_ n ∧ v = .int .i64 1 ∧ On W0 (SpP 146 b s :: L) w')) := by
  refine enter Tryz.func136 rfl Tryz.ntmps136 rfl ?_
  have ob_ := openS h
  obtain ⟨gd, od, cd, am, cm, hw, h⟩ := ob_
  have hwf := hw
  obtain ⟨hw1, hw2, hw3, hw4⟩ := hw
  have ob_ := Own.bounds h.p1
  obtain ⟨hdc, hdm⟩ := ob_
  refine W.seq (W.region (WL.val run_assign rfl rfl (WL.nil (W.seq (W.seq (W.region (WL.val run_move rfl rfl ?_)))))))
  refine WL.val run_move rfl rfl (WL.val run_move rfl rfl (WL.eff (eff_call Tryz.call133 (in_s hw3 h)) rfl rfl ?_))
  rintro _ w ⟨hv, h⟩
  rcases hv with ⟨rfl, hi⟩ | ⟨rfl, hi⟩
  ·
   refine WL.val (run_not rfl) rfl rfl (WL.nil (W.condF rfl (W.skip (W.seq ?_))))
   have ob_ := Int.eq_ofNat_of_zero_le (show 0 ≤ at_ by omega)
   obtain ⟨p, rfl⟩ := ob_
   have ob_ := Int.eq_ofNat_of_zero_le (show 0 ≤ n by omega)
   obtain ⟨q, rfl⟩ := ob_
   have ob_ := sliced_part (b := gd) (o := od) (show p * 8 ≤ (p + q) * 8 by omega) (show (p + q) * 8 ≤ cd by omega)
   obtain ⟨lo, hlo, hlo2⟩ := ob_
   refine W.region (WL.val run_move rfl rfl (WL.val run_move rfl rfl (WL.val run_move rfl rfl (WL.eff (eff_call Tryz.call82 (part_ok (at_ := p) (n := q) hw3 (by omega) hdc h)) rfl rfl ?_))))
   rintro _ w ⟨rfl, h⟩
   refine WL.eff (eff_clearIn (lo := lo) (m := (p + q) * 8 - p * 8) h.p1 hlo rfl Tryz.underlying22 Tryz.zeroValue5 rfl rfl (by omega)) rfl rfl ?_
   rintro _ w h
   have hov : splice (bytesV s.d) lo (List.replicate ((p + q) * 8 - p * 8) (.int .u8 0)) = bytesV (unmapS s p q).d := by
     rw [show List.replicate ((p + q) * 8 - p * 8) (Value.int .u8 0) = bytesV (List.replicate (8 * q) 0) by simp [bytesV, byteV]; omega, bytesV_over]
     rcases hlo2 with rfl | ⟨h0, rfl⟩
     · rw [Nat.mul_comm]; rfl
     · have ob_ : q = 0 := by omega
       obtain rfl := ob_
       show bytesV (over s.d 0 []) = bytesV (over s.d (8 * p) [])
       rw [over_nil, over_nil]
   rw [hov] at h
   refine WL.nil (W.seq (W.region (WL.val run_move rfl rfl (WL.val (run_nilCheck rfl) rfl rfl (WL.val (run_fieldAddr 2 Tryz.underlying146 rfl Tryz.sizeOf144 rfl rfl) rfl rfl (WL.val (run_load1 Tryz.isAgg144 rfl (h.cellB rfl)) rfl rfl (WL.val run_move rfl rfl ?_)))))))
   refine WL.val run_move rfl rfl (WL.eff (eff_call Tryz.call156 (bunset_ok h.p2 (by omega))) rfl rfl ?_)
   rintro _ w ⟨_, h⟩
   refine WL.nil (W.seq (W.region (WL.val run_assign rfl rfl (WL.nil (W.ret (bodyQ.r1 (v := .int .i64 _) Tryz.results136 rfl ?_))))))
   refine .inl ⟨p, q, rfl, rfl, by omega, by omega, rfl, ?_⟩
   have hwf2 := unmapS_wf (at_ := p) (n := q) hwf (by omega)
   have hml : (unmapS s p q).m.length = s.m.length := turned_length ..
   refine closeS (cd := cd) (cm := cm) (gd := gd) (od := od) (am := am) hwf2 ?_
   rw [hml]
   show On W0 (blk b [.int .i64 (s.N : Int), .slice (some ⟨gd, od, none⟩) (8 * s.N) cd, .slice am s.m.length cm] 146 :: Own 1 (.slice (some ⟨gd, od, none⟩) (8 * s.N) cd) (8 * s.N) (bytesV (unmapS s p q).d) :: Own 1 (.slice am s.m.length cm) s.m.length (bytesV (turned s.m p q false)) :: L) w
   exact h.to
  refine WL.val (run_not rfl) rfl rfl (WL.nil (W.condT rfl (W.seq (W.region (WL.val run_assign rfl rfl (WL.nil (W.ret ?_)))))))
  refine bodyQ.r1 (v := .int .i64 _) Tryz.results136 rfl ?_
  exact .inr ⟨hi, rfl, closeS (cd := cd) (cm := cm) (gd := gd) (od := od) (am := am) hwf h⟩

theorem write_ok {b : Nat} {s : Sp} {at_ : Int} {ax : Option Addr} {cx : Nat} {bs : List UInt8} (h : On W0 (SpP 146 b s :: L) w) (C : Gives L (Bytes (.slice ax bs.length cx) bs)) : Calls Tryz.prog 135 #[.pointer (some ⟨b, 0, none⟩), .int .i64 at_, .slice ax bs.length cx] w (Ret fun v w' =>
    (∃ p : Nat, at_ = p ∧ bs.length % 8 = 0 ∧ p + bs.length / 8 ≤ s.N ∧ bs.length / 8 ≤ 32 ∧ v = .int .i64 0 ∧ On W0 (SpP 146 b (writeS s p bs) :: L) w') ∨ (¬ (bs.length % 8 = 0 ∧ inS s at_ ((bs.length / 8 : Nat) : Int)) ∧ v = .int .i64 1 ∧ On W0 (SpP 146 b s :: L) w')) := by
  refine enter Tryz.func135 rfl Tryz.ntmps135 rfl ?_
  have ob_ := openS h
  obtain ⟨gd, od, cd, am, cm, hw, h⟩ := ob_
  have hwf := hw
  obtain ⟨hw1, hw2, hw3, hw4⟩ := hw
  have ob_ := Own.bounds h.p1
  obtain ⟨hdc, hdm⟩ := ob_
  have ob_ := (h.readsTo C).bounds
  obtain ⟨hxc, hxm⟩ := ob_
  have hmx := maxLen_eq
  refine W.seq (W.region (WL.val run_assign rfl rfl (WL.nil (W.seq (W.region (WL.val run_move rfl rfl (WL.val (run_lenSlice Tryz.underlying22 rfl) rfl rfl ?_)))))))
  refine WL.val (run_quo rfl rfl (by omega) (by omega) (by omega)) rfl rfl (WL.val run_assign rfl rfl (WL.nil (W.seq (W.seq (W.region (WL.val run_move rfl rfl (WL.val (run_lenSlice Tryz.underlying22 rfl) rfl rfl ?_)))))))
  refine WL.val (run_rem rfl rfl (by omega) (by omega)) rfl rfl ?_
  refine WL.dec (run_neq rfl rfl) rfl rfl (fun c14 => ?_) (fun c14 => ?_)
  ·
   refine WL.val run_move rfl rfl (WL.skip rfl rfl (WL.skip rfl rfl (WL.skip rfl rfl (WL.skip rfl rfl (WL.skip rfl rfl (WL.val (run_pickT rfl) rfl rfl (WL.nil ?_)))))))
   refine W.condT rfl (W.seq (W.region (WL.val run_assign rfl rfl (WL.nil (W.ret (bodyQ.r1 (v := .int .i64 _) Tryz.results135 rfl ?_))))))
   exact .inr ⟨by omega, rfl, closeS (cd := cd) (cm := cm) (gd := gd) (od := od) (am := am) hwf h⟩
  refine WL.val run_move rfl rfl (WL.val run_move rfl rfl (WL.val run_move rfl rfl (WL.val run_move rfl rfl (WL.eff (eff_call Tryz.call133 (in_s (n := ((bs.length / 8 : Nat) : Int)) hw3 h)) rfl rfl ?_))))
  rintro _ w ⟨hv, h⟩
  rcases hv with ⟨rfl, hi⟩ | ⟨rfl, hi⟩
  ·
   refine WL.val (run_not rfl) rfl rfl (WL.val (run_pickF rfl) rfl rfl (WL.nil (W.condF rfl (W.skip (W.seq ?_)))))
   have ob_ := Int.eq_ofNat_of_zero_le (show 0 ≤ at_ by omega)
   obtain ⟨p, rfl⟩ := ob_
   have ob_ : ∃ q, bs.length = 8 * q := ⟨bs.length / 8, by omega⟩
   obtain ⟨q, hqq⟩ := ob_
   have ob_ := sliced_part (b := gd) (o := od) (show p * 8 ≤ (p + bs.length / 8) * 8 by omega) (show (p + bs.length / 8) * 8 ≤ cd by omega)
   obtain ⟨lo, hlo, hlo2⟩ := ob_
   refine W.region (WL.val run_move rfl rfl (WL.val run_move rfl rfl (WL.val run_move rfl rfl (WL.eff (eff_call Tryz.call82 (part_ok (at_ := p) (n := bs.length / 8) hw3 (by omega) hdc h)) rfl rfl ?_))))
   rintro _ w ⟨rfl, h⟩
   refine WL.val run_move rfl rfl (WL.eff (eff_copyIn (lo := lo) (m := (p + bs.length / 8) * 8 - p * 8) h.p1 hlo rfl (h.readsTo C) rfl Tryz.underlying22 Tryz.sizeOf5 (by omega) bytes_one) rfl rfl ?_)
   rintro _ w ⟨_, h⟩
   have hov : splice (bytesV s.d) lo ((bytesV bs).take (min bs.length ((p + bs.length / 8) * 8 - p * 8))) = bytesV (writeS s p bs).d := by
     rw [List.take_of_length_le (by simp; omega), bytesV_over]
     rcases hlo2 with rfl | ⟨h0, rfl⟩
     · rw [Nat.mul_comm]; rfl
     · have ob_ : bs = [] := List.eq_nil_of_length_eq_zero (by omega)
       obtain rfl := ob_
       show bytesV (over s.d 0 []) = bytesV (over s.d (8 * p) [])
       rw [over_nil, over_nil]
   rw [hov] at h
   refine WL.nil (W.seq (W.region (WL.val run_move rfl rfl (WL.val (run_nilCheck rfl) rfl rfl (WL.val (run_fieldAddr 2 Tryz.underlying146 rfl Tryz.sizeOf144 rfl rfl) rfl rfl (WL.val (run_load1 Tryz.isAgg144 rfl (h.cellB rfl)) rfl rfl (WL.val run_move rfl rfl ?_)))))))
   refine WL.val run_move rfl rfl (WL.eff (eff_call Tryz.call155 (bset_ok (k := ((bs.length / 8 : Nat) : Int)) h.p2 (by omega))) rfl rfl ?_)
   rintro _ w ⟨_, h⟩
   refine WL.nil (W.seq (W.region (WL.val run_assign rfl rfl (WL.nil (W.ret (bodyQ.r1 (v := .int .i64 _) Tryz.results135 rfl ?_))))))
   refine .inl ⟨p, rfl, by omega, by omega, by omega, rfl, ?_⟩
   have hwf2 := writeS_wf (at_ := p) (bs := bs) hwf (by omega)
   have hml : (writeS s p bs).m.length = s.m.length := turned_length ..
   refine closeS (cd := cd) (cm := cm) (gd := gd) (od := od) (am := am) hwf2 ?_
   rw [hml]
   show On W0 (blk b [.int .i64 (s.N : Int), .slice (some ⟨gd, od, none⟩) (8 * s.N) cd, .slice am s.m.length cm] 146 :: Own 1 (.slice (some ⟨gd, od, none⟩) (8 * s.N) cd) (8 * s.N) (bytesV (writeS s p bs).d) :: Own 1 (.slice am s.m.length cm) s.m.length (bytesV (turned s.m p ((bs.length / 8 : Nat) : Int) true)) :: L) w
   exact h.to
  refine WL.val (run_not rfl) rfl rfl (WL.val (run_pickF rfl) rfl rfl (WL.nil (W.condT rfl (W.seq (W.region (WL.val run_assign rfl rfl (WL.nil ?_)))))))
  refine W.ret (bodyQ.r1 (v := .int .i64 _) Tryz.results135 rfl ?_)
  exact .inr ⟨fun hh => hi hh.2, rfl, closeS (cd := cd) (cm := cm) (gd := gd) (od := od) (am := am) hwf h⟩

theorem read_ok {b : Nat} {s : Sp} {at_ n : Int} (h : On W0 (SpP 146 b s :: L) w) : Calls Tryz.prog 134 #[.pointer (some ⟨b, 0, none⟩), .int .i64 at_, .int .i64 n] w (Ret fun v w' =>
    (∃ p q : Nat, at_ = p ∧ n = q ∧ p + q ≤ s.N ∧ q ≤ 32 ∧ ∃ a, v = .tuple #[.slice a (partS s p q).length (partS s p q).length, .int .i64 0] ∧ On W0 (OwnB (.slice a (partS s p q).length (partS s p q).length) (partS s p q) :: SpP 146 b s :: L) w') ∨ (¬ inS s at_ n ∧ v = .tuple #[.slice none 0 0, .int .i64 1] ∧ On W0 (SpP 146 b s :: L) w')) := by
  refine enter Tryz.func134 rfl Tryz.ntmps134 rfl ?_
  have ob_ := openS h
  obtain ⟨gd, od, cd, am, cm, hw, h⟩ := ob_
  have hwf := hw
  obtain ⟨hw1, hw2, hw3, hw4⟩ := hw
  have ob_ := Own.bounds h.p1
  obtain ⟨hdc, hdm⟩ := ob_
  refine W.seq (W.region (WL.val run_assign rfl rfl (WL.val run_assign rfl rfl (WL.nil (W.seq (W.seq (W.region ?_)))))))
  refine WL.val run_move rfl rfl (WL.val run_move rfl rfl (WL.val run_move rfl rfl (WL.eff (eff_call Tryz.call133 (in_s hw3 h)) rfl rfl ?_)))
  rintro _ w ⟨hv, h⟩
  rcases hv with ⟨rfl, hi⟩ | ⟨rfl, hi⟩
  ·
   refine WL.val (run_not rfl) rfl rfl (WL.nil (W.condF rfl (W.skip (W.seq ?_))))
   have ob_ := Int.eq_ofNat_of_zero_le (show 0 ≤ at_ by omega)
   obtain ⟨p, rfl⟩ := ob_
   have ob_ := Int.eq_ofNat_of_zero_le (show 0 ≤ n by omega)
   obtain ⟨q, rfl⟩ := ob_
   have ob_ := sliced_part (b := gd) (o := od) (show p * 8 ≤ (p + q) * 8 by omega) (show (p + q) * 8 ≤ cd by omega)
   obtain ⟨lo, hlo, hlo2⟩ := ob_
   have hpl : (partS s p q).length = (p + q) * 8 - p * 8 := by unfold partS; rw [List.length_take, List.length_drop]; omega
   refine W.region (WL.val run_move rfl rfl (WL.val run_move rfl rfl (WL.val run_move rfl rfl (WL.eff (eff_call Tryz.call82 (part_ok (at_ := p) (n := q) hw3 (by omega) hdc h)) rfl rfl ?_))))
   rintro _ w ⟨hv, h⟩
   rw [hlo, ← hpl] at hv
   subst hv
   have CP : ∀ L' : List HProp, Gives L' (Cells 1 (.slice (some ⟨gd, od, none⟩) (8 * s.N) cd) (8 * s.N) (bytesV s.d)) → Gives L' (Bytes (.slice (some ⟨gd, od + lo, none⟩) (partS s p q).length (cd - p * 8)) (partS s p q)) := fun L' gg hh H => by
     have c1 := (gg hh H).cut (l := p * 8) (h := (p + q) * 8) (m := cd) (by omega) (by omega) (by omega) (by omega)
     rw [hlo, ← hpl] at c1
     have e1 : ((bytesV s.d).drop (p * 8 * 1)).take ((partS s p q).length * 1) = bytesV (partS s p q) := by
       rw [hpl, Nat.mul_one, Nat.mul_one]
       unfold partS bytesV
       rw [List.map_take, List.map_drop, Nat.mul_comm p 8, show (p + q) * 8 - 8 * p = 8 * q by omega]
     rw [e1] at c1
     exact c1
   refine WL.eff (eff_call Tryz.call85 (clone_bytes h (CP _ (Gives.ownO (v := .slice (some ⟨gd, od, none⟩) (8 * s.N) cd))) (by omega))) rfl rfl ?_
   rintro _ w ⟨a, c, rfl, h⟩
   refine WL.eff (eff_call Tryz.call79 (clip_bytes h)) rfl rfl ?_
   rintro _ w ⟨rfl, h⟩
   refine WL.val run_assign rfl rfl (WL.val run_assign rfl rfl (WL.nil (W.ret (bodyQ.r2 (v1 := .slice _ _ _) (v2 := .int .i64 _) Tryz.results134 rfl rfl ?_))))
   exact .inl ⟨p, q, rfl, rfl, by omega, by omega, a, rfl, (closeS (cd := cd) (cm := cm) (gd := gd) (od := od) (am := am) hwf h.p3.p3.p3).p1⟩
  refine WL.val (run_not rfl) rfl rfl (WL.nil (W.condT rfl (W.seq (W.region (WL.val run_assign rfl rfl (WL.val run_assign rfl rfl (WL.nil ?_)))))))
  refine W.ret (bodyQ.r2 (v1 := .slice _ _ _) (v2 := .int .i64 _) Tryz.results134 rfl rfl ?_)
  exact .inr ⟨hi, rfl, closeS (cd := cd) (cm := cm) (gd := gd) (od := od) (am := am) hwf h⟩

theorem blocks_ok {b : Nat} {s : Sp} (h : On W0 (SpP 146 b s :: L) w) : Calls Tryz.prog 32 #[.pointer (some ⟨b, 0, none⟩)] w (Ret fun v w' => v = .int .i64 (s.N : Int) ∧ On W0 (SpP 146 b s :: L) w') := by
  refine enter Tryz.func32 rfl Tryz.ntmps32 rfl ?_
  have ob_ := openS h
  obtain ⟨gd, od, cd, am, cm, hw, h⟩ := ob_
  have hwf := hw
  obtain ⟨hw1, hw2, hw3, hw4⟩ := hw
  have ob_ := Own.bounds h.p1
  obtain ⟨hdc, hdm⟩ := ob_
  refine W.seq (W.region (WL.val run_assign rfl rfl (WL.nil (W.seq (W.region (WL.val run_move rfl rfl (WL.val (run_nilCheck rfl) rfl rfl ?_)))))))
  refine WL.val (run_fieldAddr 0 Tryz.underlying146 rfl Tryz.sizeOf3 rfl rfl) rfl rfl (WL.val (run_load1 Tryz.isAgg3 rfl (h.cellB rfl)) rfl rfl (WL.val run_assign rfl rfl (WL.nil (W.ret (bodyQ.r1 (v := .int .i64 _) Tryz.results32 rfl ?_)))))
  exact ⟨rfl, closeS (cd := cd) (cm := cm) (gd := gd) (od := od) (am := am) hwf h⟩

theorem snew_ok {n : Int} (h : On W0 L w) : Calls Tryz.prog 42 #[.int .i64 n] w (Ret fun v w' => (∃ N : Nat, n = N ∧ 1 ≤ N ∧ N ≤ 1024 ∧ ∃ b, v = .tuple #[.pointer (some ⟨b, 0, none⟩), .int .i64 0] ∧ On W0 (SpP 146 b (newS N) :: L) w') ∨ (¬ (1 ≤ n ∧ n ≤ 1024) ∧ v = .tuple #[.pointer none, .int .i64 1] ∧ On W0 L w')) := by
  refine enter Tryz.func42 rfl Tryz.ntmps42 rfl ?_
  have hmx := maxLen_eq
  refine W.seq (W.region (WL.val run_assign rfl rfl (WL.val run_assign rfl rfl (WL.nil (W.seq (W.seq (W.region ?_)))))))
  refine WL.val run_move rfl rfl ?_
  refine WL.dec (run_lss rfl rfl) rfl rfl (fun c5 => ?_) (fun c5 => ?_)
  ·
   refine WL.val run_move rfl rfl (WL.skip rfl rfl (WL.skip rfl rfl (WL.val (run_pickT rfl) rfl rfl (WL.nil (W.condT rfl (W.seq (W.region ?_)))))))
   refine WL.val run_assign rfl rfl (WL.val run_assign rfl rfl (WL.nil (W.ret (bodyQ.r2 (v1 := .pointer _) (v2 := .int .i64 _) Tryz.results42 rfl rfl ?_))))
   exact .inr ⟨by omega, rfl, h⟩
  refine WL.val run_move rfl rfl (WL.val run_move rfl rfl (WL.val (run_gtr rfl rfl) rfl rfl (WL.val (run_pickF rfl) rfl rfl (WL.nil ?_))))
  refine W.condIf rfl (fun c2 => ?_) (fun c2 => ?_)
  ·
   refine W.seq (W.region (WL.val run_assign rfl rfl (WL.val run_assign rfl rfl (WL.nil (W.ret (bodyQ.r2 (v1 := .pointer _) (v2 := .int .i64 _) Tryz.results42 rfl rfl ?_))))))
   exact .inr ⟨by omega, rfl, h⟩
  refine W.skip (W.seq ?_)
  have ob_ := Int.eq_ofNat_of_zero_le (show 0 ≤ n by omega)
  obtain ⟨N, rfl⟩ := ob_
  have hnb : newB (N : Int) = List.replicate ((N + 7) / 8) 0 := by unfold newB; rw [if_neg (by omega)]; simp
  refine W.draw Tryz.follows h (fun w h => ?_)
  refine WT.pure 0 rfl (by kernel_rfl) (fun w' => run_move) rfl rfl (WT.pure 1 rfl (by kernel_rfl) (fun w' => run_move) rfl rfl (WT.pure 2 rfl (by kernel_rfl) (fun w' => (run_mul rfl rfl (by omega) (by omega))) rfl rfl (WT.pure 4 rfl (by kernel_rfl) (fun w' => run_move) rfl rfl ?_)))
  -- SEVERAL MAY COME UP: [(3, 'make []uint8 t12 t12'), (5, ' gemel/bits.New(t14)')]
  refine WT.two 3 5 (by kernel_rfl) ?_ ?_
  ·
   refine WT.opOf 3 [] rfl (by kernel_rfl) (eff_make (n := 8 * N) (bytes := 1) h (by show Value.int .i64 ((N : Int) * 8) = _; congr 1; omega) (by show Value.int .i64 ((N : Int) * 8) = _; congr 1; omega) Tryz.underlying22 rfl rfl rfl rfl rfl (by omega) (by omega)) rfl rfl ?_
   rintro _ w ⟨b13, rfl, h⟩
   refine ⟨trivial, ?_⟩
   refine WT.eff 5 [] rfl (by kernel_rfl) (by kernel_rfl) (eff_call Tryz.call106 (bnew_ok (n := (N : Int)) h)) rfl rfl ?_
   rintro _ w ⟨am, cm, hv, h⟩
   rw [hnb] at hv h
   subst hv
   refine ⟨trivial, ?_⟩
   refine WT.pure 6 rfl (by kernel_rfl) (fun w' => (run_buildS (pl := [(0, 1), (1, 1), (2, 1)]) (out := [.int .i64 _, .slice _ _ _, .slice _ _ _]) Tryz.underlying146 Tryz.zeroValue146 (fun w => by kernel_rfl) rfl (⟨⟨_, _, rfl, rfl, by decide⟩, ⟨⟨_, _, rfl, rfl, by decide⟩, ⟨⟨_, _, rfl, rfl, by decide⟩, trivial⟩⟩⟩) rfl)) rfl rfl (WT.eff 7 [] rfl (by kernel_rfl) (by kernel_rfl) (eff_box (v := .agg _) (l := [.int .i64 _, .slice _ _ _, .slice _ _ _]) h rfl rfl) rfl rfl ?_)
   rintro _ w ⟨b17, rfl, h⟩
   refine ⟨trivial, ?_⟩
   refine WT.pure 8 rfl (by kernel_rfl) (fun w' => run_assign) rfl rfl (WT.pure 9 rfl (by kernel_rfl) (fun w' => run_assign) rfl rfl (WT.done (by kernel_rfl) (W.ret (bodyQ.r2 (v1 := .pointer _) (v2 := .int .i64 _) Tryz.results42 rfl rfl ?_))))
   refine .inl ⟨N, rfl, by omega, by omega, b17, rfl, closeS (gd := b13) (od := 0) (cd := 8 * N) (am := am) (cm := cm) (newS_wf (by omega) (by omega)) ?_⟩
   have e1 : bytesV (List.replicate (8 * N) 0) = List.replicate (8 * N) (.int .u8 0) := by simp [bytesV, byteV]
   show On W0 (blk b17 [.int .i64 (N : Int), .slice (some ⟨b13, 0, none⟩) (8 * N) (8 * N), .slice am (List.replicate ((N + 7) / 8) (0 : UInt8)).length cm] 146 :: Own 1 (.slice (some ⟨b13, 0, none⟩) (8 * N) (8 * N)) (8 * N) (bytesV (List.replicate (8 * N) 0)) :: Own 1 (.slice am (List.replicate ((N + 7) / 8) (0 : UInt8)).length cm) (List.replicate ((N + 7) / 8) (0 : UInt8)).length (bytesV (List.replicate ((N + 7) / 8) 0)) :: L) w
   rw [e1]
   exact h.to
  refine WT.opOf 5 [] rfl (by kernel_rfl) (eff_call Tryz.call106 (bnew_ok (n := (N : Int)) h)) rfl rfl ?_
  rintro _ w ⟨am, cm, hv, h⟩
  rw [hnb] at hv h
  subst hv
  refine ⟨trivial, ?_⟩
  refine WT.eff 3 [] rfl (by kernel_rfl) (by kernel_rfl) (eff_make (n := 8 * N) (bytes := 1) h (by show Value.int .i64 ((N : Int) * 8) = _; congr 1; omega) (by show Value.int .i64 ((N : Int) * 8) = _; congr 1; omega) Tryz.underlying22 rfl rfl rfl rfl rfl (by omega) (by omega)) rfl rfl ?_
  rintro _ w ⟨b13, rfl, h⟩
  refine ⟨trivial, ?_⟩
  refine WT.pure 6 rfl (by kernel_rfl) (fun w' => (run_buildS (pl := [(0, 1), (1, 1), (2, 1)]) (out := [.int .i64 _, .slice _ _ _, .slice _ _ _]) Tryz.underlying146 Tryz.zeroValue146 (fun w => by kernel_rfl) rfl (⟨⟨_, _, rfl, rfl, by decide⟩, ⟨⟨_, _, rfl, rfl, by decide⟩, ⟨⟨_, _, rfl, rfl, by decide⟩, trivial⟩⟩⟩) rfl)) rfl rfl (WT.eff 7 [] rfl (by kernel_rfl) (by kernel_rfl) (eff_box (v := .agg _) (l := [.int .i64 _, .slice _ _ _, .slice _ _ _]) h rfl rfl) rfl rfl ?_)
  rintro _ w ⟨b17, rfl, h⟩
  refine ⟨trivial, ?_⟩
  refine WT.pure 8 rfl (by kernel_rfl) (fun w' => run_assign) rfl rfl (WT.pure 9 rfl (by kernel_rfl) (fun w' => run_assign) rfl rfl (WT.done (by kernel_rfl) (W.ret (bodyQ.r2 (v1 := .pointer _) (v2 := .int .i64 _) Tryz.results42 rfl rfl ?_))))
  refine .inl ⟨N, rfl, by omega, by omega, b17, rfl, closeS (gd := b13) (od := 0) (cd := 8 * N) (am := am) (cm := cm) (newS_wf (by omega) (by omega)) ?_⟩
  have e1 : bytesV (List.replicate (8 * N) 0) = List.replicate (8 * N) (.int .u8 0) := by simp [bytesV, byteV]
  show On W0 (blk b17 [.int .i64 (N : Int), .slice (some ⟨b13, 0, none⟩) (8 * N) (8 * N), .slice am (List.replicate ((N + 7) / 8) (0 : UInt8)).length cm] 146 :: Own 1 (.slice (some ⟨b13, 0, none⟩) (8 * N) (8 * N)) (8 * N) (bytesV (List.replicate (8 * N) 0)) :: Own 1 (.slice am (List.replicate ((N + 7) / 8) (0 : UInt8)).length cm) (List.replicate ((N + 7) / 8) (0 : UInt8)).length (bytesV (List.replicate ((N + 7) / 8) 0)) :: L) w
  rw [e1]
  exact h.to

end Go.Proofs.YtdpakoefdpmebaaGreat
