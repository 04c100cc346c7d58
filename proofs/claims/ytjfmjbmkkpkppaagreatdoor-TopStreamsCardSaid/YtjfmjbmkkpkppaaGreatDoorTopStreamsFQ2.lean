/-
  Texts of a proof as one.
-/
import Derived.Test.YtjfmjbmkkpkppaaGreatDoorTopStreamsFQ1
set_option linter.unusedVariables false
set_option linter.unusedSimpArgs false
namespace Go.Proofs.YtjfmjbmkkpkppaaGreatDoor
open Go.Proofs.Tryz
open Go Go.Sl Go.Sl.BitM Go.Sl.SpM
set_option maxHeartbeats 4000000
set_option maxRecDepth 8000
variable {W0 w : World} {L F : List HProp}
theorem clone_bytes {ao : Option Addr} {cap : Nat} {bs : List UInt8} (h : On W0 L w) (C : Gives L (Bytes (.slice ao bs.length cap) bs)) (hn : bs.length ≤ 140737488355328) :
   Calls Tryz.prog 47 #[.slice ao bs.length cap] w (Ret fun v w' => ∃ a c, v = .slice a bs.length c ∧ On W0 (OwnB (.slice a bs.length c) bs :: L) w') := by
 refine enter func47 rfl ntmps47 rfl ?_
 have ob_ := (h.reads C).form
 obtain ⟨ao', cap', hv, hnc, hcm, hnone⟩ := ob_
 simp only [Value.slice.injEq] at hv
 obtain ⟨rfl, _, rfl⟩ := hv
 have hl := maxLen_eq
 refine W.sr (WL.z (W.seq (W.sr (WL.m ?_))))
 refine WL.v (run_eqlSliceNil underlying26 rfl rfl) (WL.nil ?_)
 refine W.condB rfl (fun c2 => ?_) (fun c2 => ?_)
 ·
  refine W.sr (WL.z (W.ret (bodyQ.r1 (v := .slice _ _ _) results47 rfl ?_)))
  have h0 : cap = 0 := hnone (by simpa using c2)
  have hb : bs = [] := List.eq_nil_of_length_eq_zero (by omega)
  subst hb
  exact ⟨none, 0, rfl, h.ownEmpty 1 none⟩
 refine W.skip (W.sr (WL.e (eff_mkSlice (zl := []) (out := []) h underlying26 sizeOf5 zeroValue5 (by decide) (by simp) rfl rfl (by simp) (trivial) rfl rfl (by simp [maxLen])) ?_))
 rintro _ w ⟨b5, rfl, h⟩
 refine WL.m (WL.e (eff_app0 (bytes := 1) h rfl rfl (h.readsTo C) underlying26 rfl rfl rfl rfl rfl (by omega) (by omega) bytes_one) ?_)
 rintro _ w ⟨a, c, rfl, h⟩
 refine WL.z (W.ret (bodyQ.r1 (v := .slice _ _ _) results47 rfl ?_))
 exact ⟨_, _, rfl, h⟩
theorem clip_bytes {a : Option Addr} {n c : Nat} {xs : List Value} (h : On W0 (Own 1 (.slice a n c) n xs :: L) w) :
   Calls Tryz.prog 43 #[.slice a n c] w (Ret fun v w' => v = .slice a n n ∧ On W0 (Own 1 (.slice a n n) n xs :: L) w') := by
 refine enter func43 rfl ntmps43 rfl ?_
 have ob_ := Own.form h
 obtain ⟨a', c', hv, hnc, hcm, hnone⟩ := ob_
 simp only [Value.slice.injEq] at hv
 obtain ⟨rfl, _, rfl⟩ := hv
 refine W.sr (WL.z (W.sr (WL.m (WL.m ?_))))
 refine WL.v (run_lenSlice underlying26 rfl) (WL.m (WL.v (run_lenSlice underlying26 rfl) (WL.v (run_cutHM underlying26 sizeOf5 rfl rfl rfl  (by omega) (by omega)) (WL.z (W.ret (bodyQ.r1 (v := .slice _ _ _) results43 rfl ?_))))))
 exact ⟨rfl, Own.clip h⟩
theorem in_s {b : Nat} {N : Nat} {cs : List Value} {e : Nat} {fr : Nat × Nat} {at_ n : Int} (hN : N ≤ 1024) (h : On W0 L w) [HasBlk L b (.int .i64 (N : Int) :: cs) e fr] :
   Calls Tryz.prog 111 #[.pointer (some ⟨b, 0, none⟩), .int .i64 at_, .int .i64 n] w (Ret fun v w' => ((v = .bool true ∧ 0 ≤ n ∧ n ≤ 32 ∧ 0 ≤ at_ ∧ at_ ≤ N ∧ n ≤ N - at_) ∨ (v = .bool false ∧ ¬ (0 ≤ n ∧ n ≤ 32 ∧ 0 ≤ at_ ∧ at_ ≤ N ∧ n ≤ N - at_))) ∧ On W0 L w') := by
 refine enter func111 rfl ntmps111 rfl (W.sr (WL.z (W.sr (WL.m ?_))))
 refine WL.q (run_geq rfl rfl) (fun c8 => ?_) (fun c8 => ?_)
 ·
  refine WL.m (WL.m ?_)
  refine WL.q (run_leq rfl rfl) (fun c11 => ?_) (fun c11 => ?_)
  ·
   refine WL.pt (WL.m (WL.m ?_))
   refine WL.q (run_geq rfl rfl) (fun c15 => ?_) (fun c15 => ?_)
   ·
    refine WL.pt (WL.m (WL.m (WL.m (WL.n rfl (WL.c 0 underlying151 rfl sizeOf3 rfl isAgg3 h rfl ?_)))))
    refine WL.q (run_leq rfl rfl) (fun c23 => ?_) (fun c23 => ?_)
    ·
     refine WL.pt (WL.m (WL.m (WL.m (WL.n rfl (WL.c 0 underlying151 rfl sizeOf3 rfl isAgg3 h rfl (WL.m ?_))))))
     refine WL.v (run_sub rfl rfl (by omega) (by omega)) ?_
     refine WL.q (run_leq rfl rfl) (fun c33 => ?_) (fun c33 => ?_)
     ·
      refine WL.pt (WL.z (W.ret (bodyQ.r1 (v := .bool _) results111 rfl ?_)))
      exact ⟨.inl ⟨rfl, by omega, by omega, by omega, by omega, by omega⟩, h⟩
     refine WL.pt (WL.z (W.ret (bodyQ.r1 (v := .bool _) results111 rfl ?_)))
     exact ⟨.inr ⟨rfl, by omega⟩, h⟩
    refine WL.pt (WL.m (WL.s (WL.s (WL.s (WL.s (WL.s (WL.s ?_)))))))
    refine WL.s (WL.s (WL.pf (WL.z (W.ret (bodyQ.r1 (v := .bool _) results111 rfl ?_)))))
    exact ⟨.inr ⟨rfl, by omega⟩, h⟩
   refine WL.pt (WL.m (WL.s (WL.s (WL.s (WL.s (WL.s (WL.s ?_)))))))
   refine WL.pf (WL.m (WL.s (WL.s (WL.s (WL.s (WL.s (WL.s ?_)))))))
   refine WL.s (WL.s (WL.pf (WL.z (W.ret (bodyQ.r1 (v := .bool _) results111 rfl ?_)))))
   exact ⟨.inr ⟨rfl, by omega⟩, h⟩
  refine WL.pt (WL.m (WL.s (WL.s (WL.pf (WL.m (WL.s (WL.s ?_)))))))
  refine WL.s (WL.s (WL.s (WL.s (WL.pf (WL.m (WL.s (WL.s ?_)))))))
  refine WL.s (WL.s (WL.s (WL.s (WL.s (WL.s (WL.pf (WL.a ?_)))))))
  refine WL.nil (W.ret (bodyQ.r1 (v := .bool _) results111 rfl ?_))
  exact ⟨.inr ⟨rfl, by omega⟩, h⟩
 refine WL.m (WL.s (WL.s (WL.pf (WL.m (WL.s (WL.s (WL.pf ?_)))))))
 refine WL.m (WL.s (WL.s (WL.s (WL.s (WL.s (WL.s (WL.pf ?_)))))))
 refine WL.m (WL.s (WL.s (WL.s (WL.s (WL.s (WL.s (WL.s ?_)))))))
 refine WL.s (WL.pf (WL.z (W.ret (bodyQ.r1 (v := .bool _) results111 rfl ?_))))
 exact ⟨.inr ⟨rfl, by omega⟩, h⟩
theorem part_ok {b gd od cd N at_ n : Nat} {c0 : Value} {cs : List Value} {e : Nat} {fr : Nat × Nat} (hN : N ≤ 1024) (hb : at_ + n ≤ N) (hc : 8 * N ≤ cd) (h : On W0 L w) [HasBlk L b (c0 :: .slice (some ⟨gd, od, none⟩) (8 * N) cd :: cs) e fr] :
   Calls Tryz.prog 136 #[.pointer (some ⟨b, 0, none⟩), .int .i64 (at_ : Int), .int .i64 (n : Int)] w (Ret fun v w' => v = sliced (some ⟨gd, od, none⟩) (at_ * 8) ((at_ + n) * 8) cd 1 ∧ On W0 L w') := by
 refine enter func136 rfl ntmps136 rfl (W.sr (WL.z (W.sr (WL.m ?_))))
 refine WL.n rfl (WL.c 1 underlying151 rfl sizeOf26 rfl isAgg26 h rfl (WL.m (WL.v (run_mulN (m := at_) (n := 8) rfl rfl (by omega)) (WL.m (WL.m (WL.v (run_addN (m := at_) (n := n) rfl rfl (by omega)) ?_))))))
 refine WL.v (run_mulN (m := at_ + n) (n := 8) rfl rfl (by omega)) (WL.v (run_cutLH underlying26 sizeOf5 rfl rfl rfl  (by omega) (by omega)) (WL.z (W.ret (bodyQ.r1 (v := .slice _ _ _) results136 rfl ?_))))
 exact ⟨rfl, h⟩
theorem unmap_ok {b : Nat} {s : Sp} {at_ n : Int} (h : On W0 (SpP 151 b s :: L) w) : Calls Tryz.prog 114 #[.pointer (some ⟨b, 0, none⟩), .int .i64 at_, .int .i64 n] w (Ret fun v w' =>
   (∃ p q : Nat, at_ = p ∧ n = q ∧ p + q ≤ s.N ∧ q ≤ 32 ∧ v = .int .i64 0 ∧ On W0 (SpP 151 b (unmapS s p q) :: L) w') ∨ (¬ inS s at_ n ∧ v = .int .i64 1 ∧ On W0 (SpP 151 b s :: L) w')) := by
 refine enter func114 rfl ntmps114 rfl ?_
 have ob_ := openS h
 obtain ⟨gd, od, cd, am, cm, hw, h⟩ := ob_
 have hwf := hw
 obtain ⟨hw1, hw2, hw3, hw4⟩ := hw
 have ob_ := Own.bounds h.p1
 obtain ⟨hdc, hdm⟩ := ob_
 refine W.sr (WL.z (W.seq (W.sr (WL.m ?_))))
 refine WL.m (WL.m (WL.e (eff_call call111 (in_s hw3 h)) ?_))
 rintro _ w ⟨hv, h⟩
 rcases hv with ⟨rfl, hi⟩ | ⟨rfl, hi⟩
 ·
  refine WL.v (run_not rfl) (WL.nil (W.cs (W.seq ?_)))
  have ob_ := Int.eq_ofNat_of_zero_le (show 0 ≤ at_ by omega)
  obtain ⟨p, rfl⟩ := ob_
  have ob_ := Int.eq_ofNat_of_zero_le (show 0 ≤ n by omega)
  obtain ⟨q, rfl⟩ := ob_
  have ob_ := sliced_part (b := gd) (o := od) (show p * 8 ≤ (p + q) * 8 by omega) (show (p + q) * 8 ≤ cd by omega)
  obtain ⟨lo, hlo, hlo2⟩ := ob_
  refine W.region (WL.m (WL.m (WL.m (WL.e (eff_call call136 (part_ok (at_ := p) (n := q) hw3 (by omega) hdc h)) ?_))))
  rintro _ w ⟨rfl, h⟩
  refine WL.e (eff_clearIn (lo := lo) (m := (p + q) * 8 - p * 8) h.p1 hlo rfl underlying26 zeroValue5 rfl rfl (by omega)) ?_
  rintro _ w h
  have hov : splice (bytesV s.d) lo (List.replicate ((p + q) * 8 - p * 8) (.int .u8 0)) = bytesV (unmapS s p q).d := by
    rw [show List.replicate ((p + q) * 8 - p * 8) (Value.int .u8 0) = bytesV (List.replicate (8 * q) 0) by simp [bytesV, byteV]; omega, bytesV_over]
    rcases hlo2 with rfl | ⟨h0, rfl⟩
    · rw [Nat.mul_comm]; rfl
    have ob_ : q = 0 := by omega
    obtain rfl := ob_
    show bytesV (over s.d 0 []) = bytesV (over s.d (8 * p) [])
    rw [over_nil, over_nil]
  rw [hov] at h
  refine WL.nil (W.sr (WL.m (WL.n rfl (WL.c 2 underlying151 rfl sizeOf148 rfl isAgg148 h rfl (WL.m ?_)))))
  refine WL.m (WL.e (eff_call call138 (bunset_ok h.p2 (by omega))) ?_)
  rintro _ w ⟨_, h⟩
  refine WL.nil (W.sr (WL.z (W.ret (bodyQ.r1 (v := .int .i64 _) results114 rfl ?_))))
  refine .inl ⟨p, q, rfl, rfl, by omega, by omega, rfl, ?_⟩
  have hwf2 := unmapS_wf (at_ := p) (n := q) hwf (by omega)
  have hml : (unmapS s p q).m.length = s.m.length := turned_length ..
  refine closeS (cd := cd) (cm := cm) (gd := gd) (od := od) (am := am) hwf2 ?_
  rw [hml]
  show On W0 (blk b [.int .i64 (s.N : Int), .slice (some ⟨gd, od, none⟩) (8 * s.N) cd, .slice am s.m.length cm] 151 :: Own 1 (.slice (some ⟨gd, od, none⟩) (8 * s.N) cd) (8 * s.N) (bytesV (unmapS s p q).d) :: Own 1 (.slice am s.m.length cm) s.m.length (bytesV (turned s.m p q false)) :: L) w
  exact h.to
 refine WL.v (run_not rfl) (WL.nil (W.ct (W.sr (WL.z (W.ret ?_)))))
 refine bodyQ.r1 (v := .int .i64 _) results114 rfl ?_
 exact .inr ⟨hi, rfl, closeS (cd := cd) (cm := cm) (gd := gd) (od := od) (am := am) hwf h⟩
theorem write_ok {b : Nat} {s : Sp} {at_ : Int} {ax : Option Addr} {cx : Nat} {bs : List UInt8} (h : On W0 (SpP 151 b s :: L) w) (C : Gives L (Bytes (.slice ax bs.length cx) bs)) : Calls Tryz.prog 113 #[.pointer (some ⟨b, 0, none⟩), .int .i64 at_, .slice ax bs.length cx] w (Ret fun v w' =>
   (∃ p : Nat, at_ = p ∧ bs.length % 8 = 0 ∧ p + bs.length / 8 ≤ s.N ∧ bs.length / 8 ≤ 32 ∧ v = .int .i64 0 ∧ On W0 (SpP 151 b (writeS s p bs) :: L) w') ∨ (¬ (bs.length % 8 = 0 ∧ inS s at_ ((bs.length / 8 : Nat) : Int)) ∧ v = .int .i64 1 ∧ On W0 (SpP 151 b s :: L) w')) := by
 refine enter func113 rfl ntmps113 rfl ?_
 have ob_ := openS h
 obtain ⟨gd, od, cd, am, cm, hw, h⟩ := ob_
 have hwf := hw
 obtain ⟨hw1, hw2, hw3, hw4⟩ := hw
 have ob_ := Own.bounds h.p1
 obtain ⟨hdc, hdm⟩ := ob_
 have ob_ := (h.readsTo C).bounds
 obtain ⟨hxc, hxm⟩ := ob_
 have hmx := maxLen_eq
 refine W.sr (WL.z (W.sr (WL.m (WL.v (run_lenSlice underlying26 rfl) ?_))))
 refine WL.v (run_quo rfl rfl (by omega) (by omega) (by omega)) (WL.z (W.seq (W.sr (WL.m (WL.v (run_lenSlice underlying26 rfl) ?_)))))
 refine WL.v (run_rem rfl rfl (by omega) (by omega)) ?_
 refine WL.q (run_neq rfl rfl) (fun c14 => ?_) (fun c14 => ?_)
 ·
  refine WL.m (WL.s (WL.s (WL.s (WL.s (WL.s (WL.pt (WL.nil ?_)))))))
  refine W.ct (W.sr (WL.z (W.ret (bodyQ.r1 (v := .int .i64 _) results113 rfl ?_))))
  exact .inr ⟨by omega, rfl, closeS (cd := cd) (cm := cm) (gd := gd) (od := od) (am := am) hwf h⟩
 refine WL.m (WL.m (WL.m (WL.m (WL.e (eff_call call111 (in_s (n := ((bs.length / 8 : Nat) : Int)) hw3 h)) ?_))))
 rintro _ w ⟨hv, h⟩
 rcases hv with ⟨rfl, hi⟩ | ⟨rfl, hi⟩
 ·
  refine WL.v (run_not rfl) (WL.pf (WL.nil (W.cs (W.seq ?_))))
  have ob_ := Int.eq_ofNat_of_zero_le (show 0 ≤ at_ by omega)
  obtain ⟨p, rfl⟩ := ob_
  have ob_ : ∃ q, bs.length = 8 * q := ⟨bs.length / 8, by omega⟩
  obtain ⟨q, hqq⟩ := ob_
  have ob_ := sliced_part (b := gd) (o := od) (show p * 8 ≤ (p + bs.length / 8) * 8 by omega) (show (p + bs.length / 8) * 8 ≤ cd by omega)
  obtain ⟨lo, hlo, hlo2⟩ := ob_
  refine W.region (WL.m (WL.m (WL.m (WL.e (eff_call call136 (part_ok (at_ := p) (n := bs.length / 8) hw3 (by omega) hdc h)) ?_))))
  rintro _ w ⟨rfl, h⟩
  refine WL.m (WL.e (eff_copyIn (lo := lo) (m := (p + bs.length / 8) * 8 - p * 8) h.p1 hlo rfl (h.readsTo C) rfl underlying26 sizeOf5 (by omega) bytes_one) ?_)
  rintro _ w ⟨_, h⟩
  have hov : splice (bytesV s.d) lo ((bytesV bs).take (min bs.length ((p + bs.length / 8) * 8 - p * 8))) = bytesV (writeS s p bs).d := by
    rw [List.take_of_length_le (by simp; omega), bytesV_over]
    rcases hlo2 with rfl | ⟨h0, rfl⟩
    · rw [Nat.mul_comm]; rfl
    have ob_ : bs = [] := List.eq_nil_of_length_eq_zero (by omega)
    obtain rfl := ob_
    show bytesV (over s.d 0 []) = bytesV (over s.d (8 * p) [])
    rw [over_nil, over_nil]
  rw [hov] at h
  refine WL.nil (W.sr (WL.m (WL.n rfl (WL.c 2 underlying151 rfl sizeOf148 rfl isAgg148 h rfl (WL.m ?_)))))
  refine WL.m (WL.e (eff_call call137 (bset_ok (k := ((bs.length / 8 : Nat) : Int)) h.p2 (by omega))) ?_)
  rintro _ w ⟨_, h⟩
  refine WL.nil (W.sr (WL.z (W.ret (bodyQ.r1 (v := .int .i64 _) results113 rfl ?_))))
  refine .inl ⟨p, rfl, by omega, by omega, by omega, rfl, ?_⟩
  have hwf2 := writeS_wf (at_ := p) (bs := bs) hwf (by omega)
  have hml : (writeS s p bs).m.length = s.m.length := turned_length ..
  refine closeS (cd := cd) (cm := cm) (gd := gd) (od := od) (am := am) hwf2 ?_
  rw [hml]
  show On W0 (blk b [.int .i64 (s.N : Int), .slice (some ⟨gd, od, none⟩) (8 * s.N) cd, .slice am s.m.length cm] 151 :: Own 1 (.slice (some ⟨gd, od, none⟩) (8 * s.N) cd) (8 * s.N) (bytesV (writeS s p bs).d) :: Own 1 (.slice am s.m.length cm) s.m.length (bytesV (turned s.m p ((bs.length / 8 : Nat) : Int) true)) :: L) w
  exact h.to
 refine WL.v (run_not rfl) (WL.pf (WL.nil (W.ct (W.sr (WL.z ?_)))))
 refine W.ret (bodyQ.r1 (v := .int .i64 _) results113 rfl ?_)
 exact .inr ⟨fun hh => hi hh.2, rfl, closeS (cd := cd) (cm := cm) (gd := gd) (od := od) (am := am) hwf h⟩
theorem read_ok {b : Nat} {s : Sp} {at_ n : Int} (h : On W0 (SpP 151 b s :: L) w) : Calls Tryz.prog 112 #[.pointer (some ⟨b, 0, none⟩), .int .i64 at_, .int .i64 n] w (Ret fun v w' =>
   (∃ p q : Nat, at_ = p ∧ n = q ∧ p + q ≤ s.N ∧ q ≤ 32 ∧ ∃ a, v = .tuple #[.slice a (partS s p q).length (partS s p q).length, .int .i64 0] ∧ On W0 (OwnB (.slice a (partS s p q).length (partS s p q).length) (partS s p q) :: SpP 151 b s :: L) w') ∨ (¬ inS s at_ n ∧ v = .tuple #[.slice none 0 0, .int .i64 1] ∧ On W0 (SpP 151 b s :: L) w')) := by
 refine enter func112 rfl ntmps112 rfl ?_
 have ob_ := openS h
 obtain ⟨gd, od, cd, am, cm, hw, h⟩ := ob_
 have hwf := hw
 obtain ⟨hw1, hw2, hw3, hw4⟩ := hw
 have ob_ := Own.bounds h.p1
 obtain ⟨hdc, hdm⟩ := ob_
 refine W.sr (WL.a (WL.z (W.seq (W.sr ?_))))
 refine WL.m (WL.m (WL.m (WL.e (eff_call call111 (in_s hw3 h)) ?_)))
 rintro _ w ⟨hv, h⟩
 rcases hv with ⟨rfl, hi⟩ | ⟨rfl, hi⟩
 ·
  refine WL.v (run_not rfl) (WL.nil (W.cs (W.seq ?_)))
  have ob_ := Int.eq_ofNat_of_zero_le (show 0 ≤ at_ by omega)
  obtain ⟨p, rfl⟩ := ob_
  have ob_ := Int.eq_ofNat_of_zero_le (show 0 ≤ n by omega)
  obtain ⟨q, rfl⟩ := ob_
  have ob_ := sliced_part (b := gd) (o := od) (show p * 8 ≤ (p + q) * 8 by omega) (show (p + q) * 8 ≤ cd by omega)
  obtain ⟨lo, hlo, hlo2⟩ := ob_
  have hpl : (partS s p q).length = (p + q) * 8 - p * 8 := by unfold partS; rw [List.length_take, List.length_drop]; omega
  refine W.region (WL.m (WL.m (WL.m (WL.e (eff_call call136 (part_ok (at_ := p) (n := q) hw3 (by omega) hdc h)) ?_))))
  rintro _ w ⟨hv, h⟩
  rw [hlo, ← hpl] at hv
  subst hv
  have CP : ∀ L' : List HProp, Gives L' (Cells 1 (.slice (some ⟨gd, od, none⟩) (8 * s.N) cd) (8 * s.N) (bytesV s.d)) → Gives L' (Bytes (.slice (some ⟨gd, od + lo, none⟩) (partS s p q).length (cd - p * 8)) (partS s p q)) := fun L' gg hh H => by
    have c1 := (gg hh H).cut (l := p * 8) (h := (p + q) * 8) (m := cd) (by omega) (by omega) (by omega) (by omega)
    rw [hlo, ← hpl] at c1
    have e1 : ((bytesV s.d).drop (p * 8 * 1)).take ((partS s p q).length * 1) = bytesV (partS s p q) := by
      rw [hpl, Nat.mul_one, Nat.mul_one]
      unfold partS bytesV
      rw [List.map_take, List.map_drop, Nat.mul_comm p 8, show (p + q) * 8 - 8 * p = 8 * q by omega]
    rw [e1] at c1
    exact c1
  refine WL.e (eff_call call47 (clone_bytes h (CP _ (Gives.ownO (v := .slice (some ⟨gd, od, none⟩) (8 * s.N) cd))) (by omega))) ?_
  rintro _ w ⟨a, c, rfl, h⟩
  refine WL.e (eff_call call43 (clip_bytes h)) ?_
  rintro _ w ⟨rfl, h⟩
  refine WL.a (WL.z (W.ret (bodyQ.r2 (v1 := .slice _ _ _) (v2 := .int .i64 _) results112 rfl rfl ?_)))
  exact .inl ⟨p, q, rfl, rfl, by omega, by omega, a, rfl, (closeS (cd := cd) (cm := cm) (gd := gd) (od := od) (am := am) hwf h.p3.p3.p3).p1⟩
 refine WL.v (run_not rfl) (WL.nil (W.ct (W.sr (WL.a (WL.z ?_)))))
 refine W.ret (bodyQ.r2 (v1 := .slice _ _ _) (v2 := .int .i64 _) results112 rfl rfl ?_)
 exact .inr ⟨hi, rfl, closeS (cd := cd) (cm := cm) (gd := gd) (od := od) (am := am) hwf h⟩
theorem blocks_ok {b : Nat} {s : Sp} (h : On W0 (SpP 151 b s :: L) w) : Calls Tryz.prog 110 #[.pointer (some ⟨b, 0, none⟩)] w (Ret fun v w' => v = .int .i64 (s.N : Int) ∧ On W0 (SpP 151 b s :: L) w') := by
 refine enter func110 rfl ntmps110 rfl ?_
 have ob_ := openS h
 obtain ⟨gd, od, cd, am, cm, hw, h⟩ := ob_
 have hwf := hw
 obtain ⟨hw1, hw2, hw3, hw4⟩ := hw
 have ob_ := Own.bounds h.p1
 obtain ⟨hdc, hdm⟩ := ob_
 refine W.sr (WL.z (W.sr (WL.m (WL.n rfl ?_))))
 refine WL.c 0 underlying151 rfl sizeOf3 rfl isAgg3 h rfl (WL.z (W.ret (bodyQ.r1 (v := .int .i64 _) results110 rfl ?_)))
 exact ⟨rfl, closeS (cd := cd) (cm := cm) (gd := gd) (od := od) (am := am) hwf h⟩
theorem snew_ok {n : Int} (h : On W0 L w) : Calls Tryz.prog 54 #[.int .i64 n] w (Ret fun v w' => (∃ N : Nat, n = N ∧ 1 ≤ N ∧ N ≤ 1024 ∧ ∃ b, v = .tuple #[.pointer (some ⟨b, 0, none⟩), .int .i64 0] ∧ On W0 (SpP 151 b (newS N) :: L) w') ∨ (¬ (1 ≤ n ∧ n ≤ 1024) ∧ v = .tuple #[.pointer none, .int .i64 1] ∧ On W0 L w')) := by
 refine enter func54 rfl ntmps54 rfl ?_
 have hmx := maxLen_eq
 refine W.sr (WL.a (WL.z (W.seq (W.sr ?_))))
 refine WL.m ?_
 refine WL.q (run_lss rfl rfl) (fun c5 => ?_) (fun c5 => ?_)
 ·
  refine WL.m (WL.s (WL.s (WL.pt (WL.nil (W.ct (W.sr ?_))))))
  refine WL.a (WL.z (W.ret (bodyQ.r2 (v1 := .pointer _) (v2 := .int .i64 _) results54 rfl rfl ?_)))
  exact .inr ⟨by omega, rfl, h⟩
 refine WL.m (WL.m (WL.v (run_gtr rfl rfl) (WL.pf (WL.nil ?_))))
 refine W.condIf rfl (fun c2 => ?_) (fun c2 => ?_)
 ·
  refine W.sr (WL.a (WL.z (W.ret (bodyQ.r2 (v1 := .pointer _) (v2 := .int .i64 _) results54 rfl rfl ?_))))
  exact .inr ⟨by omega, rfl, h⟩
 refine W.skip (W.seq ?_)
 have ob_ := Int.eq_ofNat_of_zero_le (show 0 ≤ n by omega)
 obtain ⟨N, rfl⟩ := ob_
 have hnb : newB (N : Int) = List.replicate ((N + 7) / 8) 0 := by unfold newB; rw [if_neg (by omega)]; simp
 refine W.draw Tryz.follows h (fun w h => ?_)
 refine WT.m 0 rfl (WT.m 1 rfl (WT.p 2 rfl (fun w' => (run_mul rfl rfl (by omega) (by omega))) (WT.m 4 rfl ?_)))
 refine WT.two 3 5 (by kernel_rfl) ?_ ?_
 ·
  refine WT.opOf 3 [] rfl (by kernel_rfl) (eff_make (n := 8 * N) (bytes := 1) h (by show Value.int .i64 ((N : Int) * 8) = _; congr 1; omega) (by show Value.int .i64 ((N : Int) * 8) = _; congr 1; omega) underlying26 rfl rfl rfl rfl rfl (by omega) (by omega)) rfl rfl ?_
  rintro _ w ⟨b13, rfl, h⟩
  refine ⟨trivial, ?_⟩
  refine WT.e 5 [] rfl (eff_call call77 (bnew_ok (n := (N : Int)) h)) ?_
  rintro _ w ⟨am, cm, hv, h⟩
  rw [hnb] at hv h
  subst hv
  refine ⟨trivial, ?_⟩
  refine WT.p 6 rfl (fun w' => (run_buildS (pl := [(0, 1), (1, 1), (2, 1)]) (out := [.int .i64 _, .slice _ _ _, .slice _ _ _]) underlying151 zeroValue151 (fun w => by kernel_rfl) rfl (⟨⟨_, _, rfl, rfl, by decide⟩, ⟨⟨_, _, rfl, rfl, by decide⟩, ⟨⟨_, _, rfl, rfl, by decide⟩, trivial⟩⟩⟩) rfl)) (WT.e 7 [] rfl (eff_box (v := .agg _) (l := [.int .i64 _, .slice _ _ _, .slice _ _ _]) h rfl rfl) ?_)
  rintro _ w ⟨b17, rfl, h⟩
  refine ⟨trivial, ?_⟩
  refine WT.a 8 rfl (WT.a 9 rfl (WT.dn (W.ret (bodyQ.r2 (v1 := .pointer _) (v2 := .int .i64 _) results54 rfl rfl ?_))))
  refine .inl ⟨N, rfl, by omega, by omega, b17, rfl, closeS (gd := b13) (od := 0) (cd := 8 * N) (am := am) (cm := cm) (newS_wf (by omega) (by omega)) ?_⟩
  have e1 : bytesV (List.replicate (8 * N) 0) = List.replicate (8 * N) (.int .u8 0) := by simp [bytesV, byteV]
  show On W0 (blk b17 [.int .i64 (N : Int), .slice (some ⟨b13, 0, none⟩) (8 * N) (8 * N), .slice am (List.replicate ((N + 7) / 8) (0 : UInt8)).length cm] 151 :: Own 1 (.slice (some ⟨b13, 0, none⟩) (8 * N) (8 * N)) (8 * N) (bytesV (List.replicate (8 * N) 0)) :: Own 1 (.slice am (List.replicate ((N + 7) / 8) (0 : UInt8)).length cm) (List.replicate ((N + 7) / 8) (0 : UInt8)).length (bytesV (List.replicate ((N + 7) / 8) 0)) :: L) w
  rw [e1]
  exact h.to
 refine WT.opOf 5 [] rfl (by kernel_rfl) (eff_call call77 (bnew_ok (n := (N : Int)) h)) rfl rfl ?_
 rintro _ w ⟨am, cm, hv, h⟩
 rw [hnb] at hv h
 subst hv
 refine ⟨trivial, ?_⟩
 refine WT.e 3 [] rfl (eff_make (n := 8 * N) (bytes := 1) h (by show Value.int .i64 ((N : Int) * 8) = _; congr 1; omega) (by show Value.int .i64 ((N : Int) * 8) = _; congr 1; omega) underlying26 rfl rfl rfl rfl rfl (by omega) (by omega)) ?_
 rintro _ w ⟨b13, rfl, h⟩
 refine ⟨trivial, ?_⟩
 refine WT.p 6 rfl (fun w' => (run_buildS (pl := [(0, 1), (1, 1), (2, 1)]) (out := [.int .i64 _, .slice _ _ _, .slice _ _ _]) underlying151 zeroValue151 (fun w => by kernel_rfl) rfl (⟨⟨_, _, rfl, rfl, by decide⟩, ⟨⟨_, _, rfl, rfl, by decide⟩, ⟨⟨_, _, rfl, rfl, by decide⟩, trivial⟩⟩⟩) rfl)) (WT.e 7 [] rfl (eff_box (v := .agg _) (l := [.int .i64 _, .slice _ _ _, .slice _ _ _]) h rfl rfl) ?_)
 rintro _ w ⟨b17, rfl, h⟩
 refine ⟨trivial, ?_⟩
 refine WT.a 8 rfl (WT.a 9 rfl (WT.dn (W.ret (bodyQ.r2 (v1 := .pointer _) (v2 := .int .i64 _) results54 rfl rfl ?_))))
 refine .inl ⟨N, rfl, by omega, by omega, b17, rfl, closeS (gd := b13) (od := 0) (cd := 8 * N) (am := am) (cm := cm) (newS_wf (by omega) (by omega)) ?_⟩
 have e1 : bytesV (List.replicate (8 * N) 0) = List.replicate (8 * N) (.int .u8 0) := by simp [bytesV, byteV]
 show On W0 (blk b17 [.int .i64 (N : Int), .slice (some ⟨b13, 0, none⟩) (8 * N) (8 * N), .slice am (List.replicate ((N + 7) / 8) (0 : UInt8)).length cm] 151 :: Own 1 (.slice (some ⟨b13, 0, none⟩) (8 * N) (8 * N)) (8 * N) (bytesV (List.replicate (8 * N) 0)) :: Own 1 (.slice am (List.replicate ((N + 7) / 8) (0 : UInt8)).length cm) (List.replicate ((N + 7) / 8) (0 : UInt8)).length (bytesV (List.replicate ((N + 7) / 8) 0)) :: L) w
 rw [e1]
 exact h.to
end Go.Proofs.YtjfmjbmkkpkppaaGreatDoor
namespace Go.Sl.SpM
open Go Go.Sl Go.Sl.BitM
theorem partS_length {s : Sp} {p q : Nat} (hw : wfS s) (h : p + q ≤ s.N) : (partS s p q).length = 8 * q := by
 obtain ⟨h1, _⟩ := hw
 unfold partS; rw [List.length_take, List.length_drop]; omega
theorem prefix_eq {xs ys : List UInt8} {k : Nat} (h : ∀ j, j < k → xs[j]? = ys[j]?) (hx : xs.length = k) : xs = ys.take k := by
 apply List.ext_getElem?
 intro j
 rw [List.getElem?_take]
 by_cases hj : j < k
 · rw [if_pos hj, h j hj]
 rw [if_neg hj, List.getElem?_eq_none (by omega)]
end Go.Sl.SpM
namespace Go.Proofs.YtjfmjbmkkpkppaaGreatDoor
open Go.Proofs.Tryz
open Go Go.Sl Go.Sl.BitM Go.Sl.SpM
set_option maxHeartbeats 4000000
set_option maxRecDepth 8000
variable {W0 w : World} {L F : List HProp}
theorem cut_gives {a : Option Addr} {c : Nat} {bs : List UInt8} {k : Nat} (C : Gives L (Bytes (.slice a bs.length c) bs)) (hk : k ≤ bs.length) (hc : bs.length ≤ c) :
   ∃ a' c', sliced a k bs.length c 1 = .slice a' (bs.drop k).length c' ∧ Gives L (Bytes (.slice a' (bs.drop k).length c') (bs.drop k)) := by
 refine ⟨if c = k then a else a.map (·.add (k * 1)), c - k, by rw [List.length_drop]; rfl, fun h H => ?_⟩
 have c1 := (C h H).cut (l := k) (h := bs.length) (m := c) hk (Nat.le_refl _) hc (Nat.le_refl _)
 have e1 : ((bytesV bs).drop (k * 1)).take ((bs.length - k) * 1) = bytesV (bs.drop k) := by
   rw [Nat.mul_one, Nat.mul_one, List.take_of_length_le (by simp)]
   simp [bytesV, List.map_drop]
 rw [e1] at c1
 have e2 : sliced a k bs.length c 1 = .slice (if c = k then a else a.map (·.add (k * 1))) (bs.drop k).length (c - k) := by rw [List.length_drop]; rfl
 rw [e2] at c1
 rw [← List.length_drop] at c1
 exact c1
theorem compare_ok {b : Nat} {s : Sp} {at_ : Int} {ax : Option Addr} {cx : Nat} {bs : List UInt8} (h : On W0 (SpP 151 b s :: L) w) (C : Gives L (Bytes (.slice ax bs.length cx) bs)) : Calls Tryz.prog 115 #[.pointer (some ⟨b, 0, none⟩), .int .i64 at_, .slice ax bs.length cx] w (Ret fun v w' =>
   (∃ p q : Nat, at_ = p ∧ bs.length = 16 * q ∧ p + q ≤ s.N ∧ q ≤ 32 ∧
     ((partS s p q = bs.take (8 * q) ∧ v = .tuple #[.int .i64 (-1), .int .i64 0] ∧ On W0 (SpP 151 b (writeS s p (bs.drop (8 * q))) :: L) w') ∨
      (∃ i : Nat, i < 8 * q ∧ (partS s p q)[i]? ≠ bs[i]? ∧ (∀ j, j < i → (partS s p q)[j]? = bs[j]?) ∧ v = .tuple #[.int .i64 (i : Int), .int .i64 0] ∧ On W0 (SpP 151 b s :: L) w'))) ∨
   (¬ (bs.length % 16 = 0 ∧ inS s at_ ((bs.length / 8 / 2 : Nat) : Int)) ∧ v = .tuple #[.int .i64 0, .int .i64 1] ∧ On W0 (SpP 151 b s :: L) w')) := by
 refine enter func115 rfl ntmps115 rfl ?_
 have ob_ := openS h
 obtain ⟨gd, od, cd, am, cm, hw, h⟩ := ob_
 have hwf := hw
 obtain ⟨hw1, hw2, hw3, hw4⟩ := hw
 have ob_ := Own.bounds h.p1
 obtain ⟨hdc, hdm⟩ := ob_
 have ob_ := (h.readsTo C).bounds
 obtain ⟨hxc, hxm⟩ := ob_
 have hmx := maxLen_eq
 refine W.sr (WL.a (WL.z (W.sr (WL.m ?_))))
 refine WL.v (run_lenSlice underlying26 rfl) (WL.v (run_quo rfl rfl (by omega) (by omega) (by omega)) (WL.v (run_quo rfl rfl (by omega) (by omega) (by omega)) (WL.z (W.seq (W.sr ?_)))))
 refine WL.m (WL.v (run_lenSlice underlying26 rfl) (WL.v (run_rem rfl rfl (by omega) (by omega)) ?_))
 refine WL.q (run_neq rfl rfl) (fun c18 => ?_) (fun c18 => ?_)
 ·
  refine WL.m (WL.s (WL.s (WL.s (WL.s (WL.s (WL.pt (WL.nil ?_)))))))
  refine W.ct (W.sr (WL.a (WL.z (W.ret (bodyQ.r2 (v1 := .int .i64 _) (v2 := .int .i64 _) results115 rfl rfl ?_)))))
  exact .inr ⟨by omega, rfl, closeS (cd := cd) (cm := cm) (gd := gd) (od := od) (am := am) hwf h⟩
 refine WL.m (WL.m (WL.m (WL.m (WL.e (eff_call call111 (in_s (n := ((bs.length / 8 / 2 : Nat) : Int)) hw3 h)) ?_))))
 rintro _ w ⟨hv, h⟩
 rcases hv with ⟨rfl, hi⟩ | ⟨rfl, hi⟩
 ·
  refine WL.v (run_not rfl) (WL.pf (WL.nil (W.cs (W.seq (W.seq ?_)))))
  have ob_ := Int.eq_ofNat_of_zero_le (show 0 ≤ at_ by omega)
  obtain ⟨p, rfl⟩ := ob_
  have ob_ : ∃ q, bs.length = 16 * q := ⟨bs.length / 16, by omega⟩
  obtain ⟨q, hqq⟩ := ob_
  have hq2 : bs.length / 8 / 2 = q := by omega
  rw [hq2] at hi
  have ob_ := sliced_part (b := gd) (o := od) (show p * 8 ≤ (p + q) * 8 by omega) (show (p + q) * 8 ≤ cd by omega)
  obtain ⟨lo, hlo, hlo2⟩ := ob_
  have hpl : (partS s p q).length = (p + q) * 8 - p * 8 := by unfold partS; rw [List.length_take, List.length_drop]; omega
  refine W.region (WL.m (WL.m (WL.m (WL.e (eff_call call136 (part_ok (at_ := p) (n := bs.length / 8 / 2) hw3 (by omega) hdc h)) ?_))))
  rintro _ w ⟨hv, h⟩
  rw [hq2, hlo, ← hpl] at hv
  subst hv
  have CP : ∀ L' : List HProp, Gives L' (Cells 1 (.slice (some ⟨gd, od, none⟩) (8 * s.N) cd) (8 * s.N) (bytesV s.d)) → Gives L' (Bytes (.slice (some ⟨gd, od + lo, none⟩) (partS s p q).length (cd - p * 8)) (partS s p q)) := fun L' gg hh H => by
    have c1 := (gg hh H).cut (l := p * 8) (h := (p + q) * 8) (m := cd) (by omega) (by omega) (by omega) (by omega)
    rw [hlo, ← hpl] at c1
    have e1 : ((bytesV s.d).drop (p * 8 * 1)).take ((partS s p q).length * 1) = bytesV (partS s p q) := by
      rw [hpl, Nat.mul_one, Nat.mul_one]
      unfold partS bytesV
      rw [List.map_take, List.map_drop, Nat.mul_comm p 8, show (p + q) * 8 - 8 * p = 8 * q by omega]
    rw [e1] at c1
    exact c1
  refine WL.v (run_lenSlice underlying26 rfl) (WL.m (WL.nil (W.block ?_)))
  refine W.loop (fun (k : Nat) env w => ∃ j, env = mkE j [(0, .pointer (some ⟨b, 0, none⟩)), (1, .int .i64 (p : Int)), (2, .slice ax bs.length cx), (8, .int .i64 (q : Int)), (29, .slice (some ⟨gd, od + lo, none⟩) (partS s p q).length (cd - p * 8)), (30, .int .i64 (((partS s p q).length : Nat) : Int)), (31, .int .i64 (k : Int))] ∧ k ≤ (partS s p q).length ∧ (∀ j, j < k → (partS s p q)[j]? = bs[j]?) ∧ On W0 (blk b [.int .i64 (s.N : Int), .slice (some ⟨gd, od, none⟩) (8 * s.N) cd, .slice am s.m.length cm] 151 :: Own 1 (.slice (some ⟨gd, od, none⟩) (8 * s.N) cd) (8 * s.N) (bytesV s.d) :: Own 1 (.slice am s.m.length cm) s.m.length (bytesV s.m) :: L) w) (fun k => (partS s p q).length - k) (0) ?_ ?_
  · exact ⟨_, mkE_of ⟨rfl, rfl, rfl, (by show Value.int .i64 ((bs.length / 8 / 2 : Nat) : Int) = _; rw [hq2]), rfl, rfl, rfl, trivial⟩, Nat.zero_le _, (fun j hj => by omega), h⟩
  rintro k env w ⟨j, rfl, hk, hsame, h⟩
  refine W.sr (WL.v (run_lss rfl rfl) (WL.nil (W.seq ?_)))
  refine W.condIf rfl (fun c11 => ?_) (fun c11 => ?_)
  ·
   refine W.skip (W.seq (W.block (W.seq ?_)))
   have ob_ : ∃ x, (partS s p q)[k]? = some x := ⟨(partS s p q)[k]'(by omega), by simp⟩
   obtain ⟨x, hx⟩ := ob_
   have ob_ : ∃ y, bs[k]? = some y := ⟨bs[k]'(by omega), by simp⟩
   obtain ⟨y, hy⟩ := ob_
   have ob_ := (h.readsTo C).addr (by omega)
   obtain ⟨bx, ox, rfl⟩ := ob_
   refine W.region (WL.m (WL.v (run_indexAddr underlying26 sizeOf5 rfl rfl (by omega) (by omega)) (WL.l isAgg5 rfl ((CP _ (Gives.ownO (v := .slice (some ⟨gd, od, none⟩) (8 * s.N) cd)) _ h.sat).elem (i := k) (vs := [.int .u8 x.toNat]) (by omega) (bytes_row hx) 0 _ rfl) (WL.a (WL.z (W.seq ?_))))))
   refine W.region (WL.m (WL.m (WL.m (WL.v (run_indexAddr underlying26 sizeOf5 rfl rfl (by omega) (by omega)) (WL.l isAgg5 rfl ((h.readsTo C).elem (i := k) (vs := [.int .u8 y.toNat]) (by omega) (bytes_row hy) 0 _ rfl) (WL.v (run_neq rfl rfl) (WL.nil ?_)))))))
   refine W.condIf rfl (fun c17 => ?_) (fun c17 => ?_)
   ·
    refine W.sr (WL.m (WL.a (WL.z (W.ret (bodyQ.r2 (v1 := .int .i64 _) (v2 := .int .i64 _) results115 rfl rfl ?_)))))
    refine .inl ⟨p, q, rfl, hqq, by omega, by omega, .inr ⟨k, by omega, ?_, hsame, rfl, closeS (cd := cd) (cm := cm) (gd := gd) (od := od) (am := am) hwf h⟩⟩
    rw [hx, hy]
    intro hh
    simp only [Option.some.injEq] at hh
    subst hh
    exact c17 rfl
   refine W.skip (W.region (WL.v (run_incN rfl rfl (by omega)) (WL.m (WL.nil ?_))))
   exact ⟨k + 1, ⟨_, mkE_of ⟨rfl, rfl, rfl, rfl, rfl, rfl, rfl, trivial⟩, by omega, (fun j hj => by
     by_cases hjk : j = k
     · subst hjk; rw [hx, hy]; congr 1; exact UInt8.toNat_inj.1 (by omega)
     exact hsame j (by omega)), h⟩, by show (partS s p q).length - (k + 1) < (partS s p q).length - k; omega⟩
  refine W.exit (W.seq ?_)
  have hall : partS s p q = bs.take (8 * q) := by
    have := prefix_eq (k := 8 * q) (xs := partS s p q) (ys := bs) (fun j hj => hsame j (by omega)) (by omega)
    exact this
  have ob_ := cut_gives (k := q * 8) C (by omega) hxc
  obtain ⟨a', c', hcut, CC⟩ := ob_
  rw [Nat.mul_comm q 8] at CC
  rw [show (bs.drop (q * 8)).length = (bs.drop (8 * q)).length by rw [Nat.mul_comm]] at hcut
  refine W.region (WL.m (WL.m (WL.m (WL.m (WL.v (run_mulN (m := q) (n := 8) rfl rfl (by omega)) (WL.v (run_cutLV underlying26 sizeOf5 rfl rfl (by omega) hcut) (WL.e (eff_call call113 (write_ok (s := s) (bs := bs.drop (8 * q)) (closeS (cd := cd) (cm := cm) (gd := gd) (od := od) (am := am) hwf h) CC)) ?_)))))))
  rintro _ w hv
  rcases hv with ⟨p', hp', hm1, hm2, hm3, rfl, h⟩ | ⟨hno, rfl, h⟩
  rotate_left
  · exfalso
    refine hno ⟨by rw [List.length_drop]; omega, ?_⟩
    rw [List.length_drop]
    unfold inS
    omega
  have ob_ : p = p' := by omega
  obtain rfl := ob_
  refine WL.nil (W.sr (WL.a (WL.z (W.ret (bodyQ.r2 (v1 := .int .i64 _) (v2 := .int .i64 _) results115 rfl rfl ?_)))))
  exact .inl ⟨p, q, rfl, hqq, by omega, by omega, .inl ⟨hall, rfl, h⟩⟩
 refine WL.v (run_not rfl) (WL.pf (WL.nil (W.ct (W.sr (WL.a (WL.a ?_))))))
 refine WL.nil (W.ret (bodyQ.r2 (v1 := .int .i64 _) (v2 := .int .i64 _) results115 rfl rfl ?_))
 exact .inr ⟨fun hh => hi hh.2, rfl, closeS (cd := cd) (cm := cm) (gd := gd) (od := od) (am := am) hwf h⟩
end Go.Proofs.YtjfmjbmkkpkppaaGreatDoor
namespace Go.Sl.RsM
open Go Go.Sl
structure Tb where
 K : Nat → Int
 hold : Int
 typ : Int
 gen : Int
def Tb.cells (t : Tb) : List Value := [.int .u64 (t.K 0), .int .u64 (t.K 1), .int .u64 (t.K 2), .int .u64 (t.K 3), .int .u64 (t.K 4), .int .u64 (t.K 5), .int .u64 (t.K 6), .int .u64 (t.K 7), .int .i64 t.hold, .int .i64 t.typ, .int .u32 t.gen]
def keysV (K : Nat → Int) : List Value := [.int .u64 (K 0), .int .u64 (K 1), .int .u64 (K 2), .int .u64 (K 3), .int .u64 (K 4), .int .u64 (K 5), .int .u64 (K 6), .int .u64 (K 7)]
theorem cells_key {t : Tb} {i : Nat} (h : i < 8) : t.cells[i]? = some (.int .u64 (t.K i)) := by
 match i, h with
 | 0, _ | 1, _ | 2, _ | 3, _ | 4, _ | 5, _ | 6, _ | 7, _ => rfl
theorem keysV_key {K : Nat → Int} {i : Nat} (h : i < 8) : (keysV K)[i]? = some (.int .u64 (K i)) := by
 match i, h with
 | 0, _ | 1, _ | 2, _ | 3, _ | 4, _ | 5, _ | 6, _ | 7, _ => rfl
def Tb.put (t : Tb) (i : Nat) (x : Int) : Tb := { t with K := fun j => if j = i then x else t.K j }
theorem cells_put {t : Tb} {i : Nat} {x : Int} (h : i < 8) : t.cells.set i (.int .u64 x) = (t.put i x).cells := by
 match i, h with
 | 0, _ | 1, _ | 2, _ | 3, _ | 4, _ | 5, _ | 6, _ | 7, _ => simp [Tb.cells, Tb.put]
def rep (s k c : Int) : Value := .agg #[.int .i64 s, .int .i64 k, .int .i64 c, .slice none 0 0, .int .i64 0]
def hostB (h : Int) : Bool := decide (0 ≤ h) && decide (h < 8)
theorem hostB_iff {h : Int} : hostB h = true ↔ 0 ≤ h ∧ h < 8 := by simp [hostB]
theorem hostB_no {h : Int} : hostB h = false ↔ ¬ (0 ≤ h ∧ h < 8) := by rw [← Bool.not_eq_true, hostB_iff]
def typedB (y : Int) : Bool := decide (y = 1) || (decide (y = 3) || (decide (y = 5) || decide (y = 6)))
theorem typedB_iff {y : Int} : typedB y = true ↔ y = 1 ∨ y = 3 ∨ y = 5 ∨ y = 6 := by simp [typedB]
theorem typedB_no {y : Int} : typedB y = false ↔ ¬ (y = 1 ∨ y = 3 ∨ y = 5 ∨ y = 6) := by rw [← Bool.not_eq_true, typedB_iff]
def Tb.regsB (t : Tb) : Bool := decide (t.typ = 5) || decide (t.typ = 6)
theorem Tb.regsB_iff {t : Tb} : t.regsB = true ↔ t.typ = 5 ∨ t.typ = 6 := by simp [Tb.regsB]
def hostsN (K : Nat → Int) (h : Int) (p : Int → Bool) (n : Nat) : List Nat := (List.range n).filter fun i => !(decide ((i : Int) = h)) && (!decide (K i = 0) && p (K i))
theorem hostsN_succ (K : Nat → Int) (h : Int) (p : Int → Bool) (n : Nat) : hostsN K h p (n + 1) = hostsN K h p n ++ if (n : Int) = h ∨ K n = 0 ∨ p (K n) = false then [] else [n] := by
 unfold hostsN
 rw [List.range_succ, List.filter_append]
 congr 1
 by_cases h1 : (n : Int) = h
 · simp [List.filter_cons, h1]
 by_cases h2 : K n = 0
 · simp [List.filter_cons, h1, h2]
 cases h3 : p (K n) <;> simp [List.filter_cons, h1, h2, h3]
theorem hostsN_len (K : Nat → Int) (h : Int) (p : Int → Bool) (n : Nat) : (hostsN K h p n).length ≤ n := by
 have := List.length_filter_le (fun i : Nat => !(decide ((i : Int) = h)) && (!decide (K i = 0) && p (K i))) (List.range n)
 simpa [hostsN] using this
theorem hostsN_mem {K : Nat → Int} {h : Int} {p : Int → Bool} {n i : Nat} : i ∈ hostsN K h p n ↔ i < n ∧ ¬ (i : Int) = h ∧ ¬ K i = 0 ∧ p (K i) = true := by
 simp [hostsN]
def noteV (code : Int) (i : Nat) : List Value := [.int .i64 (i : Int), .int .i64 code]
theorem noteV_length (code : Int) (i : Nat) : (noteV code i).length = 2 := rfl
def notesV (code : Int) (l : List Nat) : List Value := l.flatMap (noteV code)
theorem notesV_snoc (code : Int) (l : List Nat) (i : Nat) : notesV code l ++ noteV code i = notesV code (l ++ [i]) := by simp [notesV]
def Tb.freed (t : Tb) : Tb := { t with hold := -1, typ := 0 }
def Tb.told (t : Tb) (h : Int) : List Nat := if t.regsB then hostsN t.K h (fun _ => true) 8 else []
def Tb.inc (t : Tb) : Tb := { t with gen := IntKind.u32.wrap (t.gen + 1) }
end Go.Sl.RsM
namespace Go.Sl.RsM
open Go Go.Sl
theorem cells_at {t : Tb} {i : Nat} (h : i < 8) : t.cells[0 + 0 + ((i : Nat) : Int).toNat * 1]? = some (.int .u64 (t.K i)) := by
 rw [show 0 + 0 + ((i : Nat) : Int).toNat * 1 = i by simp]; exact cells_key h
theorem cells_set {t : Tb} {i : Nat} {x : Int} (h : i < 8) : t.cells.set (0 + 0 + ((i : Nat) : Int).toNat * 1) (.int .u64 x) = (t.put i x).cells := by
 rw [show 0 + 0 + ((i : Nat) : Int).toNat * 1 = i by simp]; exact cells_put h
theorem cells_lt {t : Tb} {i : Nat} (h : i < 8) : Nat.ble (0 + 0 + ((i : Nat) : Int).toNat * 1 + 1) t.cells.length = true := by
 rw [show 0 + 0 + ((i : Nat) : Int).toNat * 1 = i by simp, show t.cells.length = 11 from rfl, Nat.ble_eq]; omega
def okM (t : Tb) (h key : Int) : Prop := ∃ i : Nat, h = i ∧ i < 8 ∧ t.K i ≠ 0 ∧ t.K i = key
def newT : Tb := ⟨fun _ => 0, -1, 0, 0⟩
def Tb.take (t : Tb) (h typ : Int) : Tb := { t with hold := h, typ := typ }
def Tb.cleared (t : Tb) : Tb := { t.inc with K := fun _ => 0, hold := -1, typ := 0 }
def regO (t : Tb) (i : Nat) (fresh : Int) : List Nat × Tb := if fresh = 0 ∧ t.hold = (i : Int) then (t.told i, t.inc.freed.put i fresh) else ([], t.inc.put i fresh)
def alwP (t : Tb) (hh : Int) : Prop := t.hold = -1 ∨ t.hold = hh ∨ (t.regsB = true ∧ ∃ i : Nat, hh = i ∧ i < 8 ∧ t.K i ≠ 0)
def allowP (t : Tb) (hh kind : Int) : Prop := alwP t hh ∨ ((kind = 1 ∨ kind = 2) ∧ (t.typ = 1 ∨ t.typ = 5)) ∨ ¬ (1 ≤ kind ∧ kind ≤ 6)
theorem cells_atI {t : Tb} {x : Int} (h0 : 0 ≤ x) (h : x < 8) : t.cells[0 + 0 + x.toNat * 1]? = some (.int .u64 (t.K x.toNat)) := by
 rw [show 0 + 0 + x.toNat * 1 = x.toNat by simp]; exact cells_key (by omega)
def zer (t : Tb) (l : List Nat) : Tb := { t with K := fun j => if j ∈ l then 0 else t.K j }
theorem zer_nil (t : Tb) : zer t [] = t := by simp [zer]
theorem zer_snoc (t : Tb) (l : List Nat) (i : Nat) : zer t (l ++ [i]) = (zer t l).put i 0 := by
 unfold zer Tb.put
 congr 1
 funext j
 by_cases h : j = i
 · simp [h]
 simp [h]
def takesP (t : Tb) (hh other : Int) : Prop := t.hold ≠ -1 ∧ t.hold ≠ hh ∧ t.K t.hold.toNat = other
instance (t : Tb) (hh other : Int) : Decidable (takesP t hh other) := by unfold takesP; exact inferInstance
def preL (t : Tb) (hh other : Int) : List Nat := hostsN t.K hh (fun k => decide (k = other)) 8
def preT0 (t : Tb) (hh other typ : Int) : Tb := (if takesP t hh other then t.take hh typ else t).inc
def preT (t : Tb) (hh other typ : Int) : Tb := zer (preT0 t hh other typ) (preL t hh other)
def preOk (t : Tb) (hh key other typ : Int) : Prop := okM t hh key ∧ other ≠ 0 ∧ preL t hh other ≠ [] ∧ (takesP t hh other → typedB typ = true)
theorem take_snoc {α : Type} {l : List α} {q : Nat} {x : α} (h : l[q]? = some x) : l.take (q + 1) = l.take q ++ [x] := by
 rw [List.take_add_one, h]; rfl
end Go.Sl.RsM
namespace Go.Sl.RsM
open Go Go.Sl
def inv (t : Tb) : Prop := (t.hold = -1 ∧ t.typ = 0) ∨ (0 ≤ t.hold ∧ t.hold < 8 ∧ t.K t.hold.toNat ≠ 0 ∧ typedB t.typ = true)
theorem inv_new : inv newT := .inl ⟨rfl, rfl⟩
theorem inv_freed {t : Tb} : inv t.freed := .inl ⟨rfl, rfl⟩
theorem inv_cleared {t : Tb} : inv t.cleared := .inl ⟨rfl, rfl⟩
theorem inv_hold {t : Tb} (h : inv t) : t.hold = -1 ∨ (0 ≤ t.hold ∧ t.hold < 8) := by rcases h with h | h <;> omega
theorem inv_take {t : Tb} {hh key typ : Int} (h : okM t hh key) (ht : typedB typ = true) : inv (t.take hh typ) := by
 obtain ⟨i, rfl, hi, hk, _⟩ := h
 exact .inr ⟨by show (0 : Int) ≤ i; omega, by show (i : Int) < 8; omega, by show t.K (i : Int).toNat ≠ 0; simpa using hk, ht⟩
theorem inv_reg {t : Tb} {i : Nat} {fresh : Int} (h : inv t) (hi : i < 8) : inv (regO t i fresh).2 := by
 unfold regO
 split
 · rename_i hc
   exact .inl ⟨rfl, rfl⟩
 rename_i hc
 rcases h with ⟨h1, h2⟩ | ⟨h1, h2, h3, h4⟩
 · exact .inl ⟨h1, h2⟩
 refine .inr ⟨h1, h2, ?_, h4⟩
 show (if t.hold.toNat = i then fresh else t.K t.hold.toNat) ≠ 0
 split
 · rename_i he
   intro hf
   exact hc ⟨hf, by omega⟩
 exact h3
theorem inv_pre {t : Tb} {hh key other typ : Int} (h : inv t) (hp : preOk t hh key other typ) : inv (preT t hh other typ) := by
 obtain ⟨⟨i, rfl, hi, hk, _⟩, _, _, hty⟩ := hp
 unfold preT preT0
 by_cases htk : takesP t i other
 · rw [if_pos htk]
   refine .inr ⟨by show (0 : Int) ≤ i; omega, by show (i : Int) < 8; omega, ?_, hty htk⟩
   show (if (i : Int).toNat ∈ preL t i other then (0 : Int) else t.K (i : Int).toNat) ≠ 0
   rw [if_neg (by intro hm; exact (hostsN_mem.1 hm).2.1 (by simp))]
   simpa using hk
 rw [if_neg htk]
 rcases h with ⟨h1, h2⟩ | ⟨h1, h2, h3, h4⟩
 · exact .inl ⟨h1, h2⟩
 refine .inr ⟨h1, h2, ?_, h4⟩
 show (if t.hold.toNat ∈ preL t i other then (0 : Int) else t.K t.hold.toNat) ≠ 0
 rw [if_neg ?_]
 · exact h3
 intro hm
 have hm' := hostsN_mem.1 hm
 exact htk ⟨by omega, by intro he; exact hm'.2.1 (by omega), by simpa using hm'.2.2.2⟩
structure Act where
 op : Int
 host : Int
 key : Int
 other : Int
 typ : Int
end Go.Sl.RsM
namespace Go.Sl.RsM
open Go Go.Sl
end Go.Sl.RsM
namespace Go.Sl.RsM
open Go Go.Sl
theorem told_len {t : Tb} {h : Int} : (t.told h).length ≤ 8 := by
 unfold Tb.told
 split
 · exact hostsN_len ..
 exact Nat.zero_le _
end Go.Sl.RsM
namespace Go.Sl.RsM
open Go Go.Sl
end Go.Sl.RsM
namespace Go.Proofs.YtjfmjbmkkpkppaaGreatDoor
open Go.Proofs.Tryz
open Go Go.Sl Go.Sl.RsM
set_option maxHeartbeats 1000000
set_option maxRecDepth 8000
variable {W0 w : World} {L F : List HProp}
theorem host_ok {x : Int} (h : On W0 L w) : Calls Tryz.prog 80 #[.int .i64 x] w (Ret fun v w' => v = .bool (hostB x) ∧ On W0 L w') := by
 refine enter func80 rfl ntmps80 rfl (W.sr (WL.z (W.sr (WL.m ?_))))
 refine WL.q (run_geq rfl rfl) (fun c4 => ?_) (fun c4 => ?_)
 ·
  refine WL.m (WL.m ?_)
  refine WL.q (run_lss rfl rfl) (fun c7 => ?_) (fun c7 => ?_)
  ·
   refine WL.pt (WL.z (W.ret (bodyQ.r1 (v := .bool _) results80 rfl ?_)))
   exact ⟨by rw [hostB_iff.2 ⟨by omega, by omega⟩], h⟩
  refine WL.pt (WL.z (W.ret (bodyQ.r1 (v := .bool _) results80 rfl ?_)))
  exact ⟨by rw [hostB_no.2 (by omega)], h⟩
 refine WL.m (WL.s (WL.s (WL.pf (WL.z (W.ret (bodyQ.r1 (v := .bool _) results80 rfl ?_))))))
 exact ⟨by rw [hostB_no.2 (by omega)], h⟩
theorem typed_ok {x : Int} (h : On W0 L w) : Calls Tryz.prog 121 #[.int .i64 x] w (Ret fun v w' => v = .bool (typedB x) ∧ On W0 L w') := by
 refine enter func121 rfl ntmps121 rfl (W.sr (WL.z (W.sr (WL.m ?_))))
 refine WL.q (run_eql rfl rfl) (fun c4 => ?_) (fun c4 => ?_)
 ·
  refine WL.m (WL.s (WL.s (WL.pt (WL.m (WL.s (WL.s (WL.pt ?_)))))))
  refine WL.m (WL.s (WL.s (WL.pt (WL.z (W.ret (bodyQ.r1 (v := .bool _) results121 rfl ?_))))))
  exact ⟨by rw [typedB_iff.2 (by omega)], h⟩
 refine WL.m (WL.m ?_)
 refine WL.q (run_eql rfl rfl) (fun c7 => ?_) (fun c7 => ?_)
 ·
  refine WL.pf (WL.m (WL.s (WL.s (WL.pt (WL.m (WL.s (WL.s ?_)))))))
  refine WL.pt (WL.z (W.ret (bodyQ.r1 (v := .bool _) results121 rfl ?_)))
  exact ⟨by rw [typedB_iff.2 (by omega)], h⟩
 refine WL.pf (WL.m (WL.m ?_))
 refine WL.q (run_eql rfl rfl) (fun c11 => ?_) (fun c11 => ?_)
 ·
  refine WL.pf (WL.m (WL.s (WL.s (WL.pt (WL.z (W.ret ?_))))))
  refine bodyQ.r1 (v := .bool _) results121 rfl ?_
  exact ⟨by rw [typedB_iff.2 (by omega)], h⟩
 refine WL.pf (WL.m (WL.m ?_))
 refine WL.q (run_eql rfl rfl) (fun c15 => ?_) (fun c15 => ?_)
 ·
  refine WL.pf (WL.z (W.ret (bodyQ.r1 (v := .bool _) results121 rfl ?_)))
  exact ⟨by rw [typedB_iff.2 (by omega)], h⟩
 refine WL.pf (WL.z (W.ret (bodyQ.r1 (v := .bool _) results121 rfl ?_)))
 exact ⟨by rw [typedB_no.2 (by omega)], h⟩
theorem wrong_ok {x y : Int} (h : On W0 L w) : Calls Tryz.prog 49 #[.int .i64 x, .int .i64 y] w (Ret fun v w' => v = rep 2 x y ∧ On W0 L w') := by
 refine enter func49 rfl ntmps49 rfl (W.sr (WL.e (eff_alloc h zeroValue44 rfl) ?_))
 rintro _ w ⟨b4, rfl, h⟩
 refine WL.nil (W.sr (WL.m (WL.m (WL.v (run_buildS (pl := qp0) (out := qv0) underlying44 zeroValue44 (fun w => by kernel_rfl) rfl (⟨⟨_, _, rfl, rfl, by decide⟩, ⟨⟨_, _, rfl, rfl, by decide⟩, ⟨⟨_, _, rfl, rfl, by decide⟩, trivial⟩⟩⟩) rfl) (WL.e (eff_storeW (vs := qv0) h sizeOf44 rfl rfl rfl rfl rfl) ?_)))))
 rintro _ w h
 refine WL.nil (W.ret (bodyQ.rcB (vs := qv0) h results49 isAgg44 sizeOf44 rfl rfl rfl ?_))
 exact ⟨rfl, h.tail⟩
theorem conflict_ok (h : On W0 L w) : Calls Tryz.prog 117 #[] w (Ret fun v w' => v = rep 24 0 0 ∧ On W0 L w') := by
 refine enter func117 rfl ntmps117 rfl (W.sr (WL.e (eff_alloc h zeroValue44 rfl) ?_))
 rintro _ w ⟨b0, rfl, h⟩
 refine WL.nil (W.sr (WL.v (run_buildS (pl := qp0) (out := qv0) underlying44 zeroValue44 (fun w => by kernel_rfl) rfl (⟨⟨_, _, rfl, rfl, by decide⟩, trivial⟩) rfl) (WL.e (eff_storeW (vs := qv0) h sizeOf44 rfl rfl rfl rfl rfl) ?_)))
 rintro _ w h
 refine WL.nil (W.ret (bodyQ.rcB (vs := qv0) h results117 isAgg44 sizeOf44 rfl rfl rfl ?_))
 exact ⟨rfl, h.tail⟩
theorem good_ok (h : On W0 L w) : Calls Tryz.prog 119 #[] w (Ret fun v w' => v = rep 0 0 0 ∧ On W0 L w') := by
 refine enter func119 rfl ntmps119 rfl (W.sr (WL.e (eff_alloc h zeroValue44 rfl) ?_))
 rintro _ w ⟨b0, rfl, h⟩
 refine WL.nil (W.sr (WL.v (run_buildS (pl := qp0) (out := qv0) underlying44 zeroValue44 (fun w => by kernel_rfl) rfl (⟨⟨_, _, rfl, rfl, by decide⟩, trivial⟩) rfl) (WL.e (eff_storeW (vs := qv0) h sizeOf44 rfl rfl rfl rfl rfl) ?_)))
 rintro _ w h
 refine WL.nil (W.ret (bodyQ.rcB (vs := qv0) h results119 isAgg44 sizeOf44 rfl rfl rfl ?_))
 exact ⟨rfl, h.tail⟩
theorem field_ok (h : On W0 L w) : Calls Tryz.prog 116 #[] w (Ret fun v w' => v = rep 2 5 9216 ∧ On W0 L w') := by
 refine enter func116 rfl ntmps116 rfl (W.sr (WL.e (eff_alloc h zeroValue44 rfl) ?_))
 rintro _ w ⟨b0, rfl, h⟩
 refine WL.nil (W.sr (WL.e (eff_call call49 (wrong_ok h)) ?_))
 rintro _ w ⟨rfl, h⟩
 refine WL.e (eff_storeW (vs := qv0) h sizeOf44 rfl rfl rfl rfl rfl) ?_
 rintro _ w h
 refine WL.nil (W.ret (bodyQ.rcB (vs := qv0) h results116 isAgg44 sizeOf44 rfl rfl rfl ?_))
 exact ⟨rfl, h.tail⟩
theorem every_ok {k : Int} (h : On W0 L w) : Calls Tryz.prog 123 #[.int .u64 k] w (Ret fun v w' => v = .bool true ∧ On W0 L w') := by
 refine enter func123 rfl ntmps123 rfl (W.sr (WL.z (W.sr (WL.a ?_))))
 refine WL.nil (W.ret (bodyQ.r1 (v := .bool _) results123 rfl ?_))
 exact ⟨rfl, h⟩
theorem regs_ok {b : Nat} {t : Tb} (h : On W0 (blk b t.cells 154 :: L) w) : Calls Tryz.prog 79 #[.pointer (some ⟨b, 0, none⟩)] w (Ret fun v w' => v = .bool t.regsB ∧ On W0 (blk b t.cells 154 :: L) w') := by
 refine enter func79 rfl ntmps79 rfl (W.sr (WL.z (W.sr (WL.m ?_))))
 refine WL.n rfl (WL.c 9 underlying154 rfl sizeOf3 rfl isAgg3 h rfl ?_)
 refine WL.q (run_eql rfl rfl) (fun c7 => ?_) (fun c7 => ?_)
 ·
  refine WL.m (WL.s (WL.s (WL.s (WL.s (WL.s (WL.pt (WL.a ?_)))))))
  refine WL.nil (W.ret (bodyQ.r1 (v := .bool _) results79 rfl ?_))
  exact ⟨by rw [Tb.regsB_iff.2 (by omega)], h⟩
 refine WL.m (WL.m (WL.n rfl (WL.c 9 underlying154 rfl sizeOf3 rfl isAgg3 h rfl ?_)))
 refine WL.q (run_eql rfl rfl) (fun c13 => ?_) (fun c13 => ?_)
 ·
  refine WL.pf (WL.z (W.ret (bodyQ.r1 (v := .bool _) results79 rfl ?_)))
  exact ⟨by rw [Tb.regsB_iff.2 (by omega)], h⟩
 refine WL.pf (WL.z (W.ret (bodyQ.r1 (v := .bool _) results79 rfl ?_)))
 exact ⟨by rw [show t.regsB = false by rw [← Bool.not_eq_true, Tb.regsB_iff]; omega], h⟩
theorem clip_notes {a : Option Addr} {n c : Nat} {xs : List Value} (h : On W0 (Own 2 (.slice a n c) n xs :: L) w) :
   Calls Tryz.prog 139 #[.slice a n c] w (Ret fun v w' => v = .slice a n n ∧ On W0 (Own 2 (.slice a n n) n xs :: L) w') := by
 refine enter func139 rfl ntmps139 rfl ?_
 have ob_ := Own.form h
 obtain ⟨a', c', hv, hnc, hcm, hnone⟩ := ob_
 simp only [Value.slice.injEq] at hv
 obtain ⟨rfl, _, rfl⟩ := hv
 refine W.sr (WL.z (W.sr (WL.m (WL.m ?_))))
 refine WL.v (run_lenSlice underlying160 rfl) (WL.m (WL.v (run_lenSlice underlying160 rfl) (WL.v (run_cutHM underlying160 sizeOf198 rfl rfl rfl  (by omega) (by omega)) (WL.z (W.ret (bodyQ.r1 (v := .slice _ _ _) results139 rfl ?_))))))
 exact ⟨rfl, Own.clip h⟩
theorem clip_keys {a : Option Addr} {n c : Nat} {xs : List Value} (h : On W0 (Own 1 (.slice a n c) n xs :: L) w) :
   Calls Tryz.prog 125 #[.slice a n c] w (Ret fun v w' => v = .slice a n n ∧ On W0 (Own 1 (.slice a n n) n xs :: L) w') := by
 refine enter func125 rfl ntmps125 rfl ?_
 have ob_ := Own.form h
 obtain ⟨a', c', hv, hnc, hcm, hnone⟩ := ob_
 simp only [Value.slice.injEq] at hv
 obtain ⟨rfl, _, rfl⟩ := hv
 refine W.sr (WL.z (W.sr (WL.m (WL.m ?_))))
 refine WL.v (run_lenSlice underlying169 rfl) (WL.m (WL.v (run_lenSlice underlying169 rfl) (WL.v (run_cutHM underlying169 sizeOf27 rfl rfl rfl  (by omega) (by omega)) (WL.z (W.ret (bodyQ.r1 (v := .slice _ _ _) results125 rfl ?_))))))
 exact ⟨rfl, Own.clip h⟩
theorem others_ok {b : Nat} {t : Tb} {hh code : Int} {f : FuncId} {caps : Array Value} {p : Int → Bool} (h : On W0 (blk b t.cells 154 :: L) w) (hf : ∀ args w, (callFunc f args).run Tryz.prog w = .ok (.enter f args) w)
   (hg : ∀ (k : Int) (A : HProp) (w : World), On W0 (A :: blk b t.cells 154 :: L) w → Calls Tryz.prog f (#[.int .u64 k] ++ caps) w (Ret fun v w' => v = .bool (p k) ∧ On W0 (A :: blk b t.cells 154 :: L) w')) :
   Calls Tryz.prog 122 #[.pointer (some ⟨b, 0, none⟩), .int .i64 hh, .int .i64 code, .func (.func f) #[] caps] w (Ret fun v w' => ∃ a, v = .slice a (hostsN t.K hh p 8).length (hostsN t.K hh p 8).length ∧ On W0 (Own 2 (.slice a (hostsN t.K hh p 8).length (hostsN t.K hh p 8).length) (hostsN t.K hh p 8).length (notesV code (hostsN t.K hh p 8)) :: blk b t.cells 154 :: L) w') := by
 refine enter func122 rfl ntmps122 rfl ?_
 have hmx := maxLen_eq
 refine W.sr (WL.z (W.scope (W.sr (WL.a ?_))))
 refine WL.nil (W.seq (W.label (W.seq (W.sr (WL.m (WL.n rfl ?_))))))
 refine WL.f 0 underlying154 rfl sizeOf152 rfl rfl (WL.v (run_loadB (vs := [.int .u64 _, .int .u64 _, .int .u64 _, .int .u64 _, .int .u64 _, .int .u64 _, .int .u64 _, .int .u64 _]) h isAgg152 sizeOf152 rfl rfl rfl) (WL.m (WL.nil (W.block ?_))))
 refine W.loop (fun (i : Nat) env w => ∃ j a c, env = mkE j [(0, .pointer (some ⟨b, 0, none⟩)), (1, .int .i64 hh), (2, .int .i64 code), (3, .func (.func f) #[] caps), (9, .slice a (hostsN t.K hh p i).length c), (15, .agg (keysV t.K).toArray), (16, .int .i64 (i : Int))] ∧ i ≤ 8 ∧ On W0 (Own 2 (.slice a (hostsN t.K hh p i).length c) (hostsN t.K hh p i).length (notesV code (hostsN t.K hh p i)) :: blk b t.cells 154 :: L) w) (fun i => 8 - i) (0) ?_ ?_
 · exact ⟨_, none, 0, mkE_of ⟨rfl, rfl, rfl, rfl, rfl, rfl, rfl, trivial⟩, Nat.zero_le _, h.ownEmpty 2 none⟩
 rintro i env w ⟨j, a, c, rfl, hi, h⟩
 have hlen := hostsN_len t.K hh p i
 refine W.sr (WL.v (run_lss rfl rfl) (WL.nil (W.seq ?_)))
 refine W.condIf rfl (fun c8 => ?_) (fun c8 => ?_)
 ·
  refine W.skip (W.seq (W.block (W.sr (WL.m (WL.v (run_indexArr underlying152 sizeOf27 isAgg27 rfl rfl (by omega) (by omega) (keysV_key (i := i) (by omega))) (WL.a ?_))))))
  refine WL.z (W.seq (W.sr (WL.m (WL.m ?_))))
  refine WL.q (run_eql rfl rfl) (fun c22 => ?_) (fun c22 => ?_)
  ·
   refine WL.m (WL.s (WL.s (WL.pt (WL.m (WL.s (WL.s (WL.s ?_)))))))
   refine WL.s (WL.pt (WL.nil (W.ct (W.exit (W.region (WL.v (run_incN rfl rfl (by omega)) (WL.m ?_)))))))
   refine WL.nil ?_
   have e : hostsN t.K hh p (i + 1) = hostsN t.K hh p i := by rw [hostsN_succ, if_pos (.inl (by omega)), List.append_nil]
   exact ⟨i + 1, ⟨_, a, c, mkE_of ⟨rfl, rfl, rfl, rfl, (by rw [e]; rfl), rfl, rfl, trivial⟩, by omega, (by rw [e]; exact h.to)⟩, by show 8 - (i + 1) < 8 - i; omega⟩
  refine WL.m (WL.m ?_)
  refine WL.q (run_eql rfl rfl) (fun c25 => ?_) (fun c25 => ?_)
  ·
   refine WL.pf (WL.m (WL.s (WL.s (WL.s (WL.s (WL.pt (WL.nil ?_)))))))
   refine W.ct (W.exit (W.region (WL.v (run_incN rfl rfl (by omega)) (WL.m (WL.nil ?_)))))
   have e : hostsN t.K hh p (i + 1) = hostsN t.K hh p i := by rw [hostsN_succ, if_pos (.inr (.inl (by omega))), List.append_nil]
   exact ⟨i + 1, ⟨_, a, c, mkE_of ⟨rfl, rfl, rfl, rfl, (by rw [e]; rfl), rfl, rfl, trivial⟩, by omega, (by rw [e]; exact h.to)⟩, by show 8 - (i + 1) < 8 - i; omega⟩
  refine WL.pf (WL.m (WL.m (WL.m (WL.e (eff_callV (xs := [_]) rfl hf (hg _ _ _ h)) ?_))))
  rintro _ w ⟨rfl, h⟩
  refine WL.v (run_not rfl) (WL.pf (WL.nil ?_))
  refine W.condB rfl (fun c14 => ?_) (fun c14 => ?_)
  ·
   refine W.exit (W.region (WL.v (run_incN rfl rfl (by omega)) (WL.m (WL.nil ?_))))
   have e : hostsN t.K hh p (i + 1) = hostsN t.K hh p i := by rw [hostsN_succ, if_pos (by simp at c14; exact .inr (.inr c14)), List.append_nil]
   exact ⟨i + 1, ⟨_, a, c, mkE_of ⟨rfl, rfl, rfl, rfl, (by rw [e]; rfl), rfl, rfl, trivial⟩, by omega, (by rw [e]; exact h.to)⟩, by show 8 - (i + 1) < 8 - i; omega⟩
  refine W.skip (W.region (WL.m (WL.m (WL.m (WL.v (run_buildS (pl := qp1) (out := [.int .i64 _, .int .i64 _]) underlying198 zeroValue198 (fun w => by kernel_rfl) rfl (⟨⟨_, _, rfl, rfl, by decide⟩, ⟨⟨_, _, rfl, rfl, by decide⟩, trivial⟩⟩) rfl) (WL.e (eff_mkSlice (zl := [.int .i64 0, .int .i64 0]) (out := [.int .i64 _, .int .i64 _]) h underlying160 sizeOf198 zeroValue198 (by decide) (by kernel_rfl) rfl rfl (by simp) (⟨⟨_, _, rfl, rfl, by decide⟩, trivial⟩) rfl rfl (by simp [maxLen])) ?_))))))
  rintro _ w ⟨b37, rfl, h⟩
  refine WL.e (eff_app (c2 := 1) (bytes := 16) h rfl rfl (h.cellsO (v := .slice (some ⟨b37, 0, none⟩) 1 1)) underlying160 rfl rfl rfl rfl rfl (by omega) (by omega) (by simp [Value.oneCell'])) ?_
  rintro _ w ⟨a38, c38, rfl, h⟩
  have h : On W0 (Own 2 (.slice a38 ((hostsN t.K hh p i).length + 1) c38) ((hostsN t.K hh p i).length + 1) (notesV code (hostsN t.K hh p i) ++ noteV code i) :: _) w := h
  refine WL.z (W.region (WL.v (run_incN rfl rfl (by omega)) (WL.m (WL.nil ?_))))
  have e : hostsN t.K hh p (i + 1) = hostsN t.K hh p i ++ [i] := by rw [hostsN_succ, if_neg (by simp at c14; rintro (h1 | h1 | h1); exact c22 h1; exact c25 h1; rw [c14] at h1; cases h1)]
  have el : (hostsN t.K hh p (i + 1)).length = (hostsN t.K hh p i).length + 1 := by rw [e, List.length_append]; rfl
  exact ⟨i + 1, ⟨_, a38, c38, mkE_of ⟨rfl, rfl, rfl, rfl, (by rw [el]; rfl), rfl, rfl, trivial⟩, by omega, (by rw [el, e, ← notesV_snoc]; exact h.to)⟩, by show 8 - (i + 1) < 8 - i; omega⟩
 refine W.exit (W.sr (WL.m (WL.e (eff_call call139 (clip_notes h)) ?_)))
 rintro _ w ⟨rfl, h⟩
 refine WL.z (W.ret (bodyQ.r1 (v := .slice _ _ _) results122 rfl ?_))
 have ob_ : i = 8 := by omega
 obtain rfl := ob_
 exact ⟨a, rfl, h⟩
theorem drop_ok {b : Nat} {t : Tb} {hh : Int} (h : On W0 (blk b t.cells 154 :: L) w) : Calls Tryz.prog 118 #[.pointer (some ⟨b, 0, none⟩), .int .i64 hh] w (Ret fun v w' => ∃ a, v = .slice a (t.told hh).length (t.told hh).length ∧ On W0 (Own 2 (.slice a (t.told hh).length (t.told hh).length) (t.told hh).length (notesV 10756 (t.told hh)) :: blk b t.freed.cells 154 :: L) w') := by
 refine enter func118 rfl ntmps118 rfl (W.sr (WL.z (W.sr (WL.a ?_))))
 refine WL.nil (W.seq (W.sr (WL.m (WL.e (eff_call call79 (regs_ok h)) ?_))))
 rintro _ w ⟨rfl, h⟩
 refine WL.nil ?_
 refine W.condB rfl (fun c3 => ?_) (fun c3 => ?_)
 ·
  refine W.region (WL.m (WL.m (WL.e (eff_call call122 (others_ok (hh := hh) (code := 10756) (f := 123) (caps := #[]) (p := (fun _ => true)) h call123 (fun k A w h => every_ok h))) ?_)))
  rintro _ w ⟨a, rfl, h⟩
  have e : t.told hh = hostsN t.K hh (fun _ => true) 8 := by unfold Tb.told; rw [if_pos c3]
  rw [← e] at h
  refine WL.z (W.sr (WL.m (WL.m (WL.n rfl (WL.f 8 underlying154 rfl sizeOf3 rfl rfl ?_)))))
  refine WL.e (eff_store (v := .int .i64 _) h sizeOf3 rfl rfl rfl rfl rfl) ?_
  rintro _ w h
  try simp only [Nat.zero_add, Nat.add_zero, List.set_cons_zero, List.set_cons_succ] at h
  refine WL.n rfl (WL.f 9 underlying154 rfl sizeOf3 rfl rfl (WL.e (eff_store (v := .int .i64 _) h sizeOf3 rfl rfl rfl rfl rfl) ?_))
  rintro _ w h
  try simp only [Nat.zero_add, Nat.add_zero, List.set_cons_zero, List.set_cons_succ] at h
  refine WL.nil (W.sr (WL.m (WL.z (W.ret (bodyQ.r1 (v := .slice _ _ _) results118 rfl ?_)))))
  exact ⟨a, by rw [e], h⟩
 have e : t.told hh = [] := by unfold Tb.told; rw [c3]; rfl
 have h := h.ownEmpty 2 none
 refine W.skip (W.sr (WL.m (WL.m (WL.n rfl (WL.f 8 underlying154 rfl sizeOf3 rfl rfl (WL.e (eff_store (v := .int .i64 _) h sizeOf3 rfl rfl rfl rfl rfl) ?_))))))
 rintro _ w h
 try simp only [Nat.zero_add, Nat.add_zero, List.set_cons_zero, List.set_cons_succ] at h
 refine WL.n rfl (WL.f 9 underlying154 rfl sizeOf3 rfl rfl (WL.e (eff_store (v := .int .i64 _) h sizeOf3 rfl rfl rfl rfl rfl) ?_))
 rintro _ w h
 try simp only [Nat.zero_add, Nat.add_zero, List.set_cons_zero, List.set_cons_succ] at h
 refine WL.nil (W.sr (WL.m (WL.z (W.ret (bodyQ.r1 (v := .slice _ _ _) results118 rfl ?_)))))
 rw [e]
 exact ⟨none, rfl, h⟩
theorem holder_ok {b : Nat} {t : Tb} (h : On W0 (blk b t.cells 154 :: L) w) : Calls Tryz.prog 94 #[.pointer (some ⟨b, 0, none⟩)] w (Ret fun v w' => v = .tuple #[.int .i64 t.hold, .int .i64 t.typ] ∧ On W0 (blk b t.cells 154 :: L) w') := by
 refine enter func94 rfl ntmps94 rfl (W.sr (WL.a (WL.z (W.seq ?_))))
 refine W.draw Tryz.follows h (fun w h => ?_)
 refine WT.m 0 rfl (WT.n 1 rfl rfl (WT.f 2 8 rfl underlying154 rfl sizeOf3 rfl rfl (WT.l 3 rfl isAgg3 rfl (h.cellB rfl) (WT.m 4 rfl (WT.n 5 rfl rfl (WT.f 6 9 rfl underlying154 rfl sizeOf3 rfl rfl (WT.l 7 rfl isAgg3 rfl (h.cellB rfl) ?_)))))))
 refine WT.a 8 rfl (WT.a 9 rfl (WT.dn (W.ret (bodyQ.r2 (v1 := .int .i64 _) (v2 := .int .i64 _) results94 rfl rfl ?_))))
 exact ⟨rfl, h⟩
theorem generation_ok {b : Nat} {t : Tb} (h : On W0 (blk b t.cells 154 :: L) w) : Calls Tryz.prog 92 #[.pointer (some ⟨b, 0, none⟩)] w (Ret fun v w' => v = .int .u32 t.gen ∧ On W0 (blk b t.cells 154 :: L) w') := by
 refine enter func92 rfl ntmps92 rfl (W.sr (WL.z (W.sr (WL.m ?_))))
 refine WL.n rfl (WL.c 10 underlying154 rfl sizeOf24 rfl isAgg24 h rfl (WL.z (W.ret (bodyQ.r1 (v := .int .u32 _) results92 rfl ?_))))
 exact ⟨rfl, h⟩
theorem rnew_ok (h : On W0 L w) : Calls Tryz.prog 55 #[] w (Ret fun v w' => ∃ b, v = .pointer (some ⟨b, 0, none⟩) ∧ On W0 (blk b newT.cells 154 :: L) w') := by
 refine enter func55 rfl ntmps55 rfl (W.sr (WL.z (W.sr (WL.v (run_buildS (pl := [(0, 8), (8, 1), (9, 1), (10, 1)]) (out := [.int .u64 _, .int .u64 _, .int .u64 _, .int .u64 _, .int .u64 _, .int .u64 _, .int .u64 _, .int .u64 _, .int .i64 _, .int .i64 _, .int .u32 _]) underlying154 zeroValue154 (fun w => by kernel_rfl) rfl (⟨⟨_, _, rfl, rfl, by decide⟩, trivial⟩) rfl) ?_))))
 refine WL.e (eff_box (v := .agg _) (l := [.int .u64 _, .int .u64 _, .int .u64 _, .int .u64 _, .int .u64 _, .int .u64 _, .int .u64 _, .int .u64 _, .int .i64 _, .int .i64 _, .int .u32 _]) h rfl rfl) ?_
 rintro _ w ⟨b2, rfl, h⟩
 refine WL.z (W.ret (bodyQ.r1 (v := .pointer _) results55 rfl ?_))
 exact ⟨_, rfl, h⟩
theorem allows_ok {b : Nat} {t : Tb} {hh kind : Int} (h : On W0 (blk b t.cells 154 :: L) w) : Calls Tryz.prog 59 #[.pointer (some ⟨b, 0, none⟩), .int .i64 hh, .int .i64 kind] w (Ret fun v w' => (∃ r : Bool, v = .bool r ∧ (r = true ↔ allowP t hh kind)) ∧ On W0 (blk b t.cells 154 :: L) w') := by
 refine enter func59 rfl ntmps59 rfl (W.sr (WL.z (W.seq (W.block (W.seq ?_)))))
 refine W.region (WL.m (WL.n rfl (WL.c 8 underlying154 rfl sizeOf3 rfl isAgg3 h rfl ?_)))
 refine WL.q (run_eql rfl rfl) (fun c12 => ?_) (fun c12 => ?_)
 ·
  refine WL.m (WL.s (WL.s (WL.s (WL.s (WL.s (WL.s (WL.pt ?_)))))))
  refine WL.m (WL.s (WL.s (WL.s (WL.s (WL.s (WL.s (WL.s ?_)))))))
  refine WL.s (WL.s (WL.s (WL.s (WL.s (WL.s (WL.s (WL.s ?_)))))))
  refine WL.pt (WL.z (W.ct (W.sr (WL.z ?_))))
  refine W.ret (bodyQ.r1 (v := .bool _) results59 rfl ?_)
  exact ⟨⟨_, rfl, iff_of_true rfl (.inl (.inl c12))⟩, h⟩
 refine WL.m (WL.m (WL.n rfl (WL.c 8 underlying154 rfl sizeOf3 rfl isAgg3 h rfl (WL.m ?_))))
 refine WL.q (run_eql rfl rfl) (fun c19 => ?_) (fun c19 => ?_)
 ·
  refine WL.pf (WL.m (WL.s (WL.s (WL.s (WL.s (WL.s (WL.s ?_)))))))
  refine WL.s (WL.s (WL.s (WL.s (WL.s (WL.s (WL.s (WL.s ?_)))))))
  refine WL.s (WL.pt (WL.z (W.ct (W.sr (WL.a ?_)))))
  refine WL.nil (W.ret (bodyQ.r1 (v := .bool _) results59 rfl ?_))
  exact ⟨⟨_, rfl, iff_of_true rfl (.inl (.inr (.inl c19)))⟩, h⟩
 refine WL.pf (WL.m (WL.m (WL.e (eff_call call79 (regs_ok h)) ?_)))
 rintro _ w ⟨hv, h⟩
 have hcs := Bool.eq_false_or_eq_true (t.regsB)
 rcases hcs with hrg | hrg <;> (rw [hrg] at hv; subst hv)
 ·
  refine WL.m (WL.m (WL.e (eff_call call80 (host_ok h)) ?_))
  rintro _ w ⟨hv, h⟩
  have hcs := Bool.eq_false_or_eq_true (hostB hh)
  rcases hcs with hb | hb <;> (rw [hb] at hv; subst hv)
  ·
   refine WL.pt (WL.m ?_)
   have ob_ := hostB_iff.1 hb
   obtain ⟨hi0, hi8⟩ := ob_
   have ob_ := Int.eq_ofNat_of_zero_le hi0
   obtain ⟨i, rfl⟩ := ob_
   have hi : i < 8 := by omega
   refine WL.m (WL.m (WL.n rfl (WL.f 0 underlying154 rfl sizeOf152 rfl rfl (WL.v (run_indexAddrArr underlying152 sizeOf27 rfl rfl (by omega) (by omega)) (WL.l isAgg27 rfl (h.cellB (cells_at hi)) ?_)))))
   refine WL.q (run_neq rfl rfl) (fun c35 => ?_) (fun c35 => ?_)
   ·
    refine WL.pt (WL.pf (WL.z (W.ct (W.sr (WL.a ?_)))))
    refine WL.nil (W.ret (bodyQ.r1 (v := .bool _) results59 rfl ?_))
    exact ⟨⟨_, rfl, iff_of_true rfl (.inl (.inr (.inr ⟨hrg, i, rfl, hi, c35⟩)))⟩, h⟩
   refine WL.pt (WL.pf (WL.z (W.cs (W.seq (W.seq ?_)))))
   have hal : ¬ alwP t (i : Int) := by
     rintro (h1 | h1 | ⟨h1, j, hj, h2, h3⟩)
     · exact c12 h1
     · exact c19 h1
     have hij : i = j := Int.ofNat.inj hj
     subst hij
     exact c35 h3
   refine W.region (WL.m (WL.nil (W.block (W.seq (W.sr (WL.v (run_eql rfl rfl) ?_))))))
   refine WL.z ?_
   refine W.condIf rfl (fun c10 => ?_) (fun c10 => ?_)
   ·
    refine W.skip ?_
    refine W.condIf rfl (fun c13 => ?_) (fun c13 => ?_)
    ·
     refine W.sr (WL.m (WL.n rfl (WL.c 9 underlying154 rfl sizeOf3 rfl isAgg3 h rfl ?_)))
     refine WL.q (run_eql rfl rfl) (fun c46 => ?_) (fun c46 => ?_)
     ·
      refine WL.m (WL.s (WL.s (WL.s (WL.s (WL.s (WL.pt (WL.a ?_)))))))
      refine WL.nil (W.ret (bodyQ.r1 (v := .bool _) results59 rfl ?_))
      refine ⟨⟨_, rfl, ?_⟩, h⟩
      unfold allowP
      simp only [hal, false_or]
      first
      | (exfalso; omega)
      | (refine iff_of_true trivial ?_; omega)
      | (refine iff_of_false (by decide) ?_; omega)
      | (rw [decide_eq_true_iff]; omega)
     refine WL.m (WL.m (WL.n rfl (WL.c 9 underlying154 rfl sizeOf3 rfl isAgg3 h rfl (WL.v (run_eql rfl rfl) (WL.pf (WL.a ?_))))))
     refine WL.nil (W.ret (bodyQ.r1 (v := .bool _) results59 rfl ?_))
     refine ⟨⟨_, rfl, ?_⟩, h⟩
     unfold allowP
     simp only [hal, false_or]
     first
     | (exfalso; omega)
     | (refine iff_of_true trivial ?_; omega)
     | (refine iff_of_false (by decide) ?_; omega)
     | (rw [decide_eq_true_iff]; omega)
    refine W.seq (W.sr (WL.v (run_eql rfl rfl) (WL.z ?_)))
    refine W.condIf rfl (fun c17 => ?_) (fun c17 => ?_)
    ·
     refine W.skip ?_
     refine W.condIf rfl (fun c26 => ?_) (fun c26 => ?_)
     ·
      refine W.sr (WL.z (W.ret (bodyQ.r1 (v := .bool _) results59 rfl ?_)))
      refine ⟨⟨_, rfl, ?_⟩, h⟩
      unfold allowP
      simp only [hal, false_or]
      first
      | (exfalso; omega)
      | (refine iff_of_true trivial ?_; omega)
      | (refine iff_of_false (by decide) ?_; omega)
      | (rw [decide_eq_true_iff]; omega)
     refine W.skip (W.sr (WL.z (W.ret (bodyQ.r1 (v := .bool _) results59 rfl ?_))))
     refine ⟨⟨_, rfl, ?_⟩, h⟩
     unfold allowP
     simp only [hal, false_or]
     first
     | (exfalso; omega)
     | (refine iff_of_true trivial ?_; omega)
     | (refine iff_of_false (by decide) ?_; omega)
     | (rw [decide_eq_true_iff]; omega)
    refine W.sr (WL.v (run_eql rfl rfl) (WL.z ?_))
    refine W.condIf rfl (fun c20 => ?_) (fun c20 => ?_)
    ·
     refine W.skip ?_
     refine W.condIf rfl (fun c26 => ?_) (fun c26 => ?_)
     ·
      refine W.sr (WL.z (W.ret (bodyQ.r1 (v := .bool _) results59 rfl ?_)))
      refine ⟨⟨_, rfl, ?_⟩, h⟩
      unfold allowP
      simp only [hal, false_or]
      first
      | (exfalso; omega)
      | (refine iff_of_true trivial ?_; omega)
      | (refine iff_of_false (by decide) ?_; omega)
      | (rw [decide_eq_true_iff]; omega)
     refine W.skip (W.sr (WL.z (W.ret (bodyQ.r1 (v := .bool _) results59 rfl ?_))))
     refine ⟨⟨_, rfl, ?_⟩, h⟩
     unfold allowP
     simp only [hal, false_or]
     first
     | (exfalso; omega)
     | (refine iff_of_true trivial ?_; omega)
     | (refine iff_of_false (by decide) ?_; omega)
     | (rw [decide_eq_true_iff]; omega)
    refine W.sr (WL.v (run_eql rfl rfl) (WL.z ?_))
    refine W.condIf rfl (fun c23 => ?_) (fun c23 => ?_)
    ·
     refine W.skip ?_
     refine W.condIf rfl (fun c26 => ?_) (fun c26 => ?_)
     ·
      refine W.sr (WL.z (W.ret (bodyQ.r1 (v := .bool _) results59 rfl ?_)))
      refine ⟨⟨_, rfl, ?_⟩, h⟩
      unfold allowP
      simp only [hal, false_or]
      first
      | (exfalso; omega)
      | (refine iff_of_true trivial ?_; omega)
      | (refine iff_of_false (by decide) ?_; omega)
      | (rw [decide_eq_true_iff]; omega)
     refine W.skip (W.sr (WL.z (W.ret (bodyQ.r1 (v := .bool _) results59 rfl ?_))))
     refine ⟨⟨_, rfl, ?_⟩, h⟩
     unfold allowP
     simp only [hal, false_or]
     first
     | (exfalso; omega)
     | (refine iff_of_true trivial ?_; omega)
     | (refine iff_of_false (by decide) ?_; omega)
     | (rw [decide_eq_true_iff]; omega)
    refine W.region (WL.v (run_eql rfl rfl) (WL.z ?_))
    refine W.condIf rfl (fun c26 => ?_) (fun c26 => ?_)
    ·
     refine W.sr (WL.z (W.ret (bodyQ.r1 (v := .bool _) results59 rfl ?_)))
     refine ⟨⟨_, rfl, ?_⟩, h⟩
     unfold allowP
     simp only [hal, false_or]
     first
     | (exfalso; omega)
     | (refine iff_of_true trivial ?_; omega)
     | (refine iff_of_false (by decide) ?_; omega)
     | (rw [decide_eq_true_iff]; omega)
    refine W.skip (W.sr (WL.z (W.ret (bodyQ.r1 (v := .bool _) results59 rfl ?_))))
    refine ⟨⟨_, rfl, ?_⟩, h⟩
    unfold allowP
    simp only [hal, false_or]
    first
    | (exfalso; omega)
    | (refine iff_of_true trivial ?_; omega)
    | (refine iff_of_false (by decide) ?_; omega)
    | (rw [decide_eq_true_iff]; omega)
   refine W.region (WL.v (run_eql rfl rfl) (WL.z ?_))
   refine W.condIf rfl (fun c13 => ?_) (fun c13 => ?_)
   ·
    refine W.sr (WL.m (WL.n rfl (WL.c 9 underlying154 rfl sizeOf3 rfl isAgg3 h rfl ?_)))
    refine WL.q (run_eql rfl rfl) (fun c46 => ?_) (fun c46 => ?_)
    ·
     refine WL.m (WL.s (WL.s (WL.s (WL.s (WL.s (WL.pt (WL.a ?_)))))))
     refine WL.nil (W.ret (bodyQ.r1 (v := .bool _) results59 rfl ?_))
     refine ⟨⟨_, rfl, ?_⟩, h⟩
     unfold allowP
     simp only [hal, false_or]
     first
     | (exfalso; omega)
     | (refine iff_of_true trivial ?_; omega)
     | (refine iff_of_false (by decide) ?_; omega)
     | (rw [decide_eq_true_iff]; omega)
    refine WL.m (WL.m (WL.n rfl (WL.c 9 underlying154 rfl sizeOf3 rfl isAgg3 h rfl (WL.v (run_eql rfl rfl) (WL.pf (WL.a ?_))))))
    refine WL.nil (W.ret (bodyQ.r1 (v := .bool _) results59 rfl ?_))
    refine ⟨⟨_, rfl, ?_⟩, h⟩
    unfold allowP
    simp only [hal, false_or]
    first
    | (exfalso; omega)
    | (refine iff_of_true trivial ?_; omega)
    | (refine iff_of_false (by decide) ?_; omega)
    | (rw [decide_eq_true_iff]; omega)
   refine W.seq (W.sr (WL.v (run_eql rfl rfl) (WL.z ?_)))
   refine W.condIf rfl (fun c17 => ?_) (fun c17 => ?_)
   ·
    refine W.skip ?_
    refine W.condIf rfl (fun c26 => ?_) (fun c26 => ?_)
    ·
     refine W.sr (WL.z (W.ret (bodyQ.r1 (v := .bool _) results59 rfl ?_)))
     refine ⟨⟨_, rfl, ?_⟩, h⟩
     unfold allowP
     simp only [hal, false_or]
     first
     | (exfalso; omega)
     | (refine iff_of_true trivial ?_; omega)
     | (refine iff_of_false (by decide) ?_; omega)
     | (rw [decide_eq_true_iff]; omega)
    refine W.skip (W.sr (WL.z (W.ret (bodyQ.r1 (v := .bool _) results59 rfl ?_))))
    refine ⟨⟨_, rfl, ?_⟩, h⟩
    unfold allowP
    simp only [hal, false_or]
    first
    | (exfalso; omega)
    | (refine iff_of_true trivial ?_; omega)
    | (refine iff_of_false (by decide) ?_; omega)
    | (rw [decide_eq_true_iff]; omega)
   refine W.sr (WL.v (run_eql rfl rfl) (WL.z ?_))
   refine W.condIf rfl (fun c20 => ?_) (fun c20 => ?_)
   ·
    refine W.skip ?_
    refine W.condIf rfl (fun c26 => ?_) (fun c26 => ?_)
    ·
     refine W.sr (WL.z (W.ret (bodyQ.r1 (v := .bool _) results59 rfl ?_)))
     refine ⟨⟨_, rfl, ?_⟩, h⟩
     unfold allowP
     simp only [hal, false_or]
     first
     | (exfalso; omega)
     | (refine iff_of_true trivial ?_; omega)
     | (refine iff_of_false (by decide) ?_; omega)
     | (rw [decide_eq_true_iff]; omega)
    refine W.skip (W.sr (WL.z (W.ret (bodyQ.r1 (v := .bool _) results59 rfl ?_))))
    refine ⟨⟨_, rfl, ?_⟩, h⟩
    unfold allowP
    simp only [hal, false_or]
    first
    | (exfalso; omega)
    | (refine iff_of_true trivial ?_; omega)
    | (refine iff_of_false (by decide) ?_; omega)
    | (rw [decide_eq_true_iff]; omega)
   refine W.sr (WL.v (run_eql rfl rfl) (WL.z ?_))
   refine W.condIf rfl (fun c23 => ?_) (fun c23 => ?_)
   ·
    refine W.skip ?_
    refine W.condIf rfl (fun c26 => ?_) (fun c26 => ?_)
    ·
     refine W.sr (WL.z (W.ret (bodyQ.r1 (v := .bool _) results59 rfl ?_)))
     refine ⟨⟨_, rfl, ?_⟩, h⟩
     unfold allowP
     simp only [hal, false_or]
     first
     | (exfalso; omega)
     | (refine iff_of_true trivial ?_; omega)
     | (refine iff_of_false (by decide) ?_; omega)
     | (rw [decide_eq_true_iff]; omega)
    refine W.skip (W.sr (WL.z (W.ret (bodyQ.r1 (v := .bool _) results59 rfl ?_))))
    refine ⟨⟨_, rfl, ?_⟩, h⟩
    unfold allowP
    simp only [hal, false_or]
    first
    | (exfalso; omega)
    | (refine iff_of_true trivial ?_; omega)
    | (refine iff_of_false (by decide) ?_; omega)
    | (rw [decide_eq_true_iff]; omega)
   refine W.region (WL.v (run_eql rfl rfl) (WL.z ?_))
   refine W.condIf rfl (fun c26 => ?_) (fun c26 => ?_)
   ·
    refine W.sr (WL.z (W.ret (bodyQ.r1 (v := .bool _) results59 rfl ?_)))
    refine ⟨⟨_, rfl, ?_⟩, h⟩
    unfold allowP
    simp only [hal, false_or]
    first
    | (exfalso; omega)
    | (refine iff_of_true trivial ?_; omega)
    | (refine iff_of_false (by decide) ?_; omega)
    | (rw [decide_eq_true_iff]; omega)
   refine W.skip (W.sr (WL.z (W.ret (bodyQ.r1 (v := .bool _) results59 rfl ?_))))
   refine ⟨⟨_, rfl, ?_⟩, h⟩
   unfold allowP
   simp only [hal, false_or]
   first
   | (exfalso; omega)
   | (refine iff_of_true trivial ?_; omega)
   | (refine iff_of_false (by decide) ?_; omega)
   | (rw [decide_eq_true_iff]; omega)
  refine WL.pt (WL.m (WL.s (WL.s (WL.s (WL.s (WL.s (WL.s ?_)))))))
  refine WL.s (WL.pf (WL.pf (WL.z (W.cs (W.seq ?_)))))
  refine W.seq ?_
  have hal : ¬ alwP t hh := by
    rintro (h1 | h1 | ⟨h1, j, hj, h2, h3⟩)
    · exact c12 h1
    · exact c19 h1
    have hb2 := hostB_no.1 hb; omega
  refine W.region (WL.m (WL.nil (W.block (W.seq (W.sr (WL.v (run_eql rfl rfl) ?_))))))
  refine WL.z ?_
  refine W.condIf rfl (fun c10 => ?_) (fun c10 => ?_)
  ·
   refine W.skip ?_
   refine W.condIf rfl (fun c13 => ?_) (fun c13 => ?_)
   ·
    refine W.sr (WL.m (WL.n rfl (WL.c 9 underlying154 rfl sizeOf3 rfl isAgg3 h rfl ?_)))
    refine WL.q (run_eql rfl rfl) (fun c46 => ?_) (fun c46 => ?_)
    ·
     refine WL.m (WL.s (WL.s (WL.s (WL.s (WL.s (WL.pt (WL.a ?_)))))))
     refine WL.nil (W.ret (bodyQ.r1 (v := .bool _) results59 rfl ?_))
     refine ⟨⟨_, rfl, ?_⟩, h⟩
     unfold allowP
     simp only [hal, false_or]
     first
     | (exfalso; omega)
     | (refine iff_of_true trivial ?_; omega)
     | (refine iff_of_false (by decide) ?_; omega)
     | (rw [decide_eq_true_iff]; omega)
    refine WL.m (WL.m (WL.n rfl (WL.c 9 underlying154 rfl sizeOf3 rfl isAgg3 h rfl (WL.v (run_eql rfl rfl) (WL.pf (WL.a ?_))))))
    refine WL.nil (W.ret (bodyQ.r1 (v := .bool _) results59 rfl ?_))
    refine ⟨⟨_, rfl, ?_⟩, h⟩
    unfold allowP
    simp only [hal, false_or]
    first
    | (exfalso; omega)
    | (refine iff_of_true trivial ?_; omega)
    | (refine iff_of_false (by decide) ?_; omega)
    | (rw [decide_eq_true_iff]; omega)
   refine W.seq (W.sr (WL.v (run_eql rfl rfl) (WL.z ?_)))
   refine W.condIf rfl (fun c17 => ?_) (fun c17 => ?_)
   ·
    refine W.skip ?_
    refine W.condIf rfl (fun c26 => ?_) (fun c26 => ?_)
    ·
     refine W.sr (WL.z (W.ret (bodyQ.r1 (v := .bool _) results59 rfl ?_)))
     refine ⟨⟨_, rfl, ?_⟩, h⟩
     unfold allowP
     simp only [hal, false_or]
     first
     | (exfalso; omega)
     | (refine iff_of_true trivial ?_; omega)
     | (refine iff_of_false (by decide) ?_; omega)
     | (rw [decide_eq_true_iff]; omega)
    refine W.skip (W.sr (WL.z (W.ret (bodyQ.r1 (v := .bool _) results59 rfl ?_))))
    refine ⟨⟨_, rfl, ?_⟩, h⟩
    unfold allowP
    simp only [hal, false_or]
    first
    | (exfalso; omega)
    | (refine iff_of_true trivial ?_; omega)
    | (refine iff_of_false (by decide) ?_; omega)
    | (rw [decide_eq_true_iff]; omega)
   refine W.sr (WL.v (run_eql rfl rfl) (WL.z ?_))
   refine W.condIf rfl (fun c20 => ?_) (fun c20 => ?_)
   ·
    refine W.skip ?_
    refine W.condIf rfl (fun c26 => ?_) (fun c26 => ?_)
    ·
     refine W.sr (WL.z (W.ret (bodyQ.r1 (v := .bool _) results59 rfl ?_)))
     refine ⟨⟨_, rfl, ?_⟩, h⟩
     unfold allowP
     simp only [hal, false_or]
     first
     | (exfalso; omega)
     | (refine iff_of_true trivial ?_; omega)
     | (refine iff_of_false (by decide) ?_; omega)
     | (rw [decide_eq_true_iff]; omega)
    refine W.skip (W.sr (WL.z (W.ret (bodyQ.r1 (v := .bool _) results59 rfl ?_))))
    refine ⟨⟨_, rfl, ?_⟩, h⟩
    unfold allowP
    simp only [hal, false_or]
    first
    | (exfalso; omega)
    | (refine iff_of_true trivial ?_; omega)
    | (refine iff_of_false (by decide) ?_; omega)
    | (rw [decide_eq_true_iff]; omega)
   refine W.sr (WL.v (run_eql rfl rfl) (WL.z ?_))
   refine W.condIf rfl (fun c23 => ?_) (fun c23 => ?_)
   ·
    refine W.skip ?_
    refine W.condIf rfl (fun c26 => ?_) (fun c26 => ?_)
    ·
     refine W.sr (WL.z (W.ret (bodyQ.r1 (v := .bool _) results59 rfl ?_)))
     refine ⟨⟨_, rfl, ?_⟩, h⟩
     unfold allowP
     simp only [hal, false_or]
     first
     | (exfalso; omega)
     | (refine iff_of_true trivial ?_; omega)
     | (refine iff_of_false (by decide) ?_; omega)
     | (rw [decide_eq_true_iff]; omega)
    refine W.skip (W.sr (WL.z (W.ret (bodyQ.r1 (v := .bool _) results59 rfl ?_))))
    refine ⟨⟨_, rfl, ?_⟩, h⟩
    unfold allowP
    simp only [hal, false_or]
    first
    | (exfalso; omega)
    | (refine iff_of_true trivial ?_; omega)
    | (refine iff_of_false (by decide) ?_; omega)
    | (rw [decide_eq_true_iff]; omega)
   refine W.region (WL.v (run_eql rfl rfl) (WL.z ?_))
   refine W.condIf rfl (fun c26 => ?_) (fun c26 => ?_)
   ·
    refine W.sr (WL.z (W.ret (bodyQ.r1 (v := .bool _) results59 rfl ?_)))
    refine ⟨⟨_, rfl, ?_⟩, h⟩
    unfold allowP
    simp only [hal, false_or]
    first
    | (exfalso; omega)
    | (refine iff_of_true trivial ?_; omega)
    | (refine iff_of_false (by decide) ?_; omega)
    | (rw [decide_eq_true_iff]; omega)
   refine W.skip (W.sr (WL.z (W.ret (bodyQ.r1 (v := .bool _) results59 rfl ?_))))
   refine ⟨⟨_, rfl, ?_⟩, h⟩
   unfold allowP
   simp only [hal, false_or]
   first
   | (exfalso; omega)
   | (refine iff_of_true trivial ?_; omega)
   | (refine iff_of_false (by decide) ?_; omega)
   | (rw [decide_eq_true_iff]; omega)
  refine W.region (WL.v (run_eql rfl rfl) (WL.z ?_))
  refine W.condIf rfl (fun c13 => ?_) (fun c13 => ?_)
  ·
   refine W.sr (WL.m (WL.n rfl (WL.c 9 underlying154 rfl sizeOf3 rfl isAgg3 h rfl ?_)))
   refine WL.q (run_eql rfl rfl) (fun c46 => ?_) (fun c46 => ?_)
   ·
    refine WL.m (WL.s (WL.s (WL.s (WL.s (WL.s (WL.pt (WL.a ?_)))))))
    refine WL.nil (W.ret (bodyQ.r1 (v := .bool _) results59 rfl ?_))
    refine ⟨⟨_, rfl, ?_⟩, h⟩
    unfold allowP
    simp only [hal, false_or]
    first
    | (exfalso; omega)
    | (refine iff_of_true trivial ?_; omega)
    | (refine iff_of_false (by decide) ?_; omega)
    | (rw [decide_eq_true_iff]; omega)
   refine WL.m (WL.m (WL.n rfl (WL.c 9 underlying154 rfl sizeOf3 rfl isAgg3 h rfl (WL.v (run_eql rfl rfl) (WL.pf (WL.a ?_))))))
   refine WL.nil (W.ret (bodyQ.r1 (v := .bool _) results59 rfl ?_))
   refine ⟨⟨_, rfl, ?_⟩, h⟩
   unfold allowP
   simp only [hal, false_or]
   first
   | (exfalso; omega)
   | (refine iff_of_true trivial ?_; omega)
   | (refine iff_of_false (by decide) ?_; omega)
   | (rw [decide_eq_true_iff]; omega)
  refine W.seq (W.sr (WL.v (run_eql rfl rfl) (WL.z ?_)))
  refine W.condIf rfl (fun c17 => ?_) (fun c17 => ?_)
  ·
   refine W.skip ?_
   refine W.condIf rfl (fun c26 => ?_) (fun c26 => ?_)
   ·
    refine W.sr (WL.z (W.ret (bodyQ.r1 (v := .bool _) results59 rfl ?_)))
    refine ⟨⟨_, rfl, ?_⟩, h⟩
    unfold allowP
    simp only [hal, false_or]
    first
    | (exfalso; omega)
    | (refine iff_of_true trivial ?_; omega)
    | (refine iff_of_false (by decide) ?_; omega)
    | (rw [decide_eq_true_iff]; omega)
   refine W.skip (W.sr (WL.z (W.ret (bodyQ.r1 (v := .bool _) results59 rfl ?_))))
   refine ⟨⟨_, rfl, ?_⟩, h⟩
   unfold allowP
   simp only [hal, false_or]
   first
   | (exfalso; omega)
   | (refine iff_of_true trivial ?_; omega)
   | (refine iff_of_false (by decide) ?_; omega)
   | (rw [decide_eq_true_iff]; omega)
  refine W.sr (WL.v (run_eql rfl rfl) (WL.z ?_))
  refine W.condIf rfl (fun c20 => ?_) (fun c20 => ?_)
  ·
   refine W.skip ?_
   refine W.condIf rfl (fun c26 => ?_) (fun c26 => ?_)
   ·
    refine W.sr (WL.z (W.ret (bodyQ.r1 (v := .bool _) results59 rfl ?_)))
    refine ⟨⟨_, rfl, ?_⟩, h⟩
    unfold allowP
    simp only [hal, false_or]
    first
    | (exfalso; omega)
    | (refine iff_of_true trivial ?_; omega)
    | (refine iff_of_false (by decide) ?_; omega)
    | (rw [decide_eq_true_iff]; omega)
   refine W.skip (W.sr (WL.z (W.ret (bodyQ.r1 (v := .bool _) results59 rfl ?_))))
   refine ⟨⟨_, rfl, ?_⟩, h⟩
   unfold allowP
   simp only [hal, false_or]
   first
   | (exfalso; omega)
   | (refine iff_of_true trivial ?_; omega)
   | (refine iff_of_false (by decide) ?_; omega)
   | (rw [decide_eq_true_iff]; omega)
  refine W.sr (WL.v (run_eql rfl rfl) (WL.z ?_))
  refine W.condIf rfl (fun c23 => ?_) (fun c23 => ?_)
  ·
   refine W.skip ?_
   refine W.condIf rfl (fun c26 => ?_) (fun c26 => ?_)
   ·
    refine W.sr (WL.z (W.ret (bodyQ.r1 (v := .bool _) results59 rfl ?_)))
    refine ⟨⟨_, rfl, ?_⟩, h⟩
    unfold allowP
    simp only [hal, false_or]
    first
    | (exfalso; omega)
    | (refine iff_of_true trivial ?_; omega)
    | (refine iff_of_false (by decide) ?_; omega)
    | (rw [decide_eq_true_iff]; omega)
   refine W.skip (W.sr (WL.z (W.ret (bodyQ.r1 (v := .bool _) results59 rfl ?_))))
   refine ⟨⟨_, rfl, ?_⟩, h⟩
   unfold allowP
   simp only [hal, false_or]
   first
   | (exfalso; omega)
   | (refine iff_of_true trivial ?_; omega)
   | (refine iff_of_false (by decide) ?_; omega)
   | (rw [decide_eq_true_iff]; omega)
  refine W.region (WL.v (run_eql rfl rfl) (WL.z ?_))
  refine W.condIf rfl (fun c26 => ?_) (fun c26 => ?_)
  ·
   refine W.sr (WL.z (W.ret (bodyQ.r1 (v := .bool _) results59 rfl ?_)))
   refine ⟨⟨_, rfl, ?_⟩, h⟩
   unfold allowP
   simp only [hal, false_or]
   first
   | (exfalso; omega)
   | (refine iff_of_true trivial ?_; omega)
   | (refine iff_of_false (by decide) ?_; omega)
   | (rw [decide_eq_true_iff]; omega)
  refine W.skip (W.sr (WL.z (W.ret (bodyQ.r1 (v := .bool _) results59 rfl ?_))))
  refine ⟨⟨_, rfl, ?_⟩, h⟩
  unfold allowP
  simp only [hal, false_or]
  first
  | (exfalso; omega)
  | (refine iff_of_true trivial ?_; omega)
  | (refine iff_of_false (by decide) ?_; omega)
  | (rw [decide_eq_true_iff]; omega)
 refine WL.m (WL.s (WL.s (WL.pf (WL.m (WL.s (WL.s (WL.s ?_)))))))
 refine WL.s (WL.s (WL.s (WL.s (WL.pf (WL.pf (WL.z ?_))))))
 refine W.cs (W.seq (W.seq ?_))
 have hal : ¬ alwP t hh := by
   rintro (h1 | h1 | ⟨h1, j, hj, h2, h3⟩)
   · exact c12 h1
   · exact c19 h1
   rw [hrg] at h1; cases h1
 refine W.region (WL.m (WL.nil (W.block (W.seq (W.sr (WL.v (run_eql rfl rfl) ?_))))))
 refine WL.z ?_
 refine W.condIf rfl (fun c10 => ?_) (fun c10 => ?_)
 ·
  refine W.skip ?_
  refine W.condIf rfl (fun c13 => ?_) (fun c13 => ?_)
  ·
   refine W.sr (WL.m (WL.n rfl (WL.c 9 underlying154 rfl sizeOf3 rfl isAgg3 h rfl ?_)))
   refine WL.q (run_eql rfl rfl) (fun c46 => ?_) (fun c46 => ?_)
   ·
    refine WL.m (WL.s (WL.s (WL.s (WL.s (WL.s (WL.pt (WL.a ?_)))))))
    refine WL.nil (W.ret (bodyQ.r1 (v := .bool _) results59 rfl ?_))
    refine ⟨⟨_, rfl, ?_⟩, h⟩
    unfold allowP
    simp only [hal, false_or]
    first
    | (exfalso; omega)
    | (refine iff_of_true trivial ?_; omega)
    | (refine iff_of_false (by decide) ?_; omega)
    | (rw [decide_eq_true_iff]; omega)
   refine WL.m (WL.m (WL.n rfl (WL.c 9 underlying154 rfl sizeOf3 rfl isAgg3 h rfl (WL.v (run_eql rfl rfl) (WL.pf (WL.a ?_))))))
   refine WL.nil (W.ret (bodyQ.r1 (v := .bool _) results59 rfl ?_))
   refine ⟨⟨_, rfl, ?_⟩, h⟩
   unfold allowP
   simp only [hal, false_or]
   first
   | (exfalso; omega)
   | (refine iff_of_true trivial ?_; omega)
   | (refine iff_of_false (by decide) ?_; omega)
   | (rw [decide_eq_true_iff]; omega)
  refine W.seq (W.sr (WL.v (run_eql rfl rfl) (WL.z ?_)))
  refine W.condIf rfl (fun c17 => ?_) (fun c17 => ?_)
  ·
   refine W.skip ?_
   refine W.condIf rfl (fun c26 => ?_) (fun c26 => ?_)
   ·
    refine W.sr (WL.z (W.ret (bodyQ.r1 (v := .bool _) results59 rfl ?_)))
    refine ⟨⟨_, rfl, ?_⟩, h⟩
    unfold allowP
    simp only [hal, false_or]
    first
    | (exfalso; omega)
    | (refine iff_of_true trivial ?_; omega)
    | (refine iff_of_false (by decide) ?_; omega)
    | (rw [decide_eq_true_iff]; omega)
   refine W.skip (W.sr (WL.z (W.ret (bodyQ.r1 (v := .bool _) results59 rfl ?_))))
   refine ⟨⟨_, rfl, ?_⟩, h⟩
   unfold allowP
   simp only [hal, false_or]
   first
   | (exfalso; omega)
   | (refine iff_of_true trivial ?_; omega)
   | (refine iff_of_false (by decide) ?_; omega)
   | (rw [decide_eq_true_iff]; omega)
  refine W.sr (WL.v (run_eql rfl rfl) (WL.z ?_))
  refine W.condIf rfl (fun c20 => ?_) (fun c20 => ?_)
  ·
   refine W.skip ?_
   refine W.condIf rfl (fun c26 => ?_) (fun c26 => ?_)
   ·
    refine W.sr (WL.z (W.ret (bodyQ.r1 (v := .bool _) results59 rfl ?_)))
    refine ⟨⟨_, rfl, ?_⟩, h⟩
    unfold allowP
    simp only [hal, false_or]
    first
    | (exfalso; omega)
    | (refine iff_of_true trivial ?_; omega)
    | (refine iff_of_false (by decide) ?_; omega)
    | (rw [decide_eq_true_iff]; omega)
   refine W.skip (W.sr (WL.z (W.ret (bodyQ.r1 (v := .bool _) results59 rfl ?_))))
   refine ⟨⟨_, rfl, ?_⟩, h⟩
   unfold allowP
   simp only [hal, false_or]
   first
   | (exfalso; omega)
   | (refine iff_of_true trivial ?_; omega)
   | (refine iff_of_false (by decide) ?_; omega)
   | (rw [decide_eq_true_iff]; omega)
  refine W.sr (WL.v (run_eql rfl rfl) (WL.z ?_))
  refine W.condIf rfl (fun c23 => ?_) (fun c23 => ?_)
  ·
   refine W.skip ?_
   refine W.condIf rfl (fun c26 => ?_) (fun c26 => ?_)
   ·
    refine W.sr (WL.z (W.ret (bodyQ.r1 (v := .bool _) results59 rfl ?_)))
    refine ⟨⟨_, rfl, ?_⟩, h⟩
    unfold allowP
    simp only [hal, false_or]
    first
    | (exfalso; omega)
    | (refine iff_of_true trivial ?_; omega)
    | (refine iff_of_false (by decide) ?_; omega)
    | (rw [decide_eq_true_iff]; omega)
   refine W.skip (W.sr (WL.z (W.ret (bodyQ.r1 (v := .bool _) results59 rfl ?_))))
   refine ⟨⟨_, rfl, ?_⟩, h⟩
   unfold allowP
   simp only [hal, false_or]
   first
   | (exfalso; omega)
   | (refine iff_of_true trivial ?_; omega)
   | (refine iff_of_false (by decide) ?_; omega)
   | (rw [decide_eq_true_iff]; omega)
  refine W.region (WL.v (run_eql rfl rfl) (WL.z ?_))
  refine W.condIf rfl (fun c26 => ?_) (fun c26 => ?_)
  ·
   refine W.sr (WL.z (W.ret (bodyQ.r1 (v := .bool _) results59 rfl ?_)))
   refine ⟨⟨_, rfl, ?_⟩, h⟩
   unfold allowP
   simp only [hal, false_or]
   first
   | (exfalso; omega)
   | (refine iff_of_true trivial ?_; omega)
   | (refine iff_of_false (by decide) ?_; omega)
   | (rw [decide_eq_true_iff]; omega)
  refine W.skip (W.sr (WL.z (W.ret (bodyQ.r1 (v := .bool _) results59 rfl ?_))))
  refine ⟨⟨_, rfl, ?_⟩, h⟩
  unfold allowP
  simp only [hal, false_or]
  first
  | (exfalso; omega)
  | (refine iff_of_true trivial ?_; omega)
  | (refine iff_of_false (by decide) ?_; omega)
  | (rw [decide_eq_true_iff]; omega)
 refine W.region (WL.v (run_eql rfl rfl) (WL.z ?_))
 refine W.condIf rfl (fun c13 => ?_) (fun c13 => ?_)
 ·
  refine W.sr (WL.m (WL.n rfl (WL.c 9 underlying154 rfl sizeOf3 rfl isAgg3 h rfl ?_)))
  refine WL.q (run_eql rfl rfl) (fun c46 => ?_) (fun c46 => ?_)
  ·
   refine WL.m (WL.s (WL.s (WL.s (WL.s (WL.s (WL.pt (WL.a ?_)))))))
   refine WL.nil (W.ret (bodyQ.r1 (v := .bool _) results59 rfl ?_))
   refine ⟨⟨_, rfl, ?_⟩, h⟩
   unfold allowP
   simp only [hal, false_or]
   first
   | (exfalso; omega)
   | (refine iff_of_true trivial ?_; omega)
   | (refine iff_of_false (by decide) ?_; omega)
   | (rw [decide_eq_true_iff]; omega)
  refine WL.m (WL.m (WL.n rfl (WL.c 9 underlying154 rfl sizeOf3 rfl isAgg3 h rfl (WL.v (run_eql rfl rfl) (WL.pf (WL.a ?_))))))
  refine WL.nil (W.ret (bodyQ.r1 (v := .bool _) results59 rfl ?_))
  refine ⟨⟨_, rfl, ?_⟩, h⟩
  unfold allowP
  simp only [hal, false_or]
  first
  | (exfalso; omega)
  | (refine iff_of_true trivial ?_; omega)
  | (refine iff_of_false (by decide) ?_; omega)
  | (rw [decide_eq_true_iff]; omega)
 refine W.seq (W.sr (WL.v (run_eql rfl rfl) (WL.z ?_)))
 refine W.condIf rfl (fun c17 => ?_) (fun c17 => ?_)
 ·
  refine W.skip ?_
  refine W.condIf rfl (fun c26 => ?_) (fun c26 => ?_)
  ·
   refine W.sr (WL.z (W.ret (bodyQ.r1 (v := .bool _) results59 rfl ?_)))
   refine ⟨⟨_, rfl, ?_⟩, h⟩
   unfold allowP
   simp only [hal, false_or]
   first
   | (exfalso; omega)
   | (refine iff_of_true trivial ?_; omega)
   | (refine iff_of_false (by decide) ?_; omega)
   | (rw [decide_eq_true_iff]; omega)
  refine W.skip (W.sr (WL.z (W.ret (bodyQ.r1 (v := .bool _) results59 rfl ?_))))
  refine ⟨⟨_, rfl, ?_⟩, h⟩
  unfold allowP
  simp only [hal, false_or]
  first
  | (exfalso; omega)
  | (refine iff_of_true trivial ?_; omega)
  | (refine iff_of_false (by decide) ?_; omega)
  | (rw [decide_eq_true_iff]; omega)
 refine W.sr (WL.v (run_eql rfl rfl) (WL.z ?_))
 refine W.condIf rfl (fun c20 => ?_) (fun c20 => ?_)
 ·
  refine W.skip ?_
  refine W.condIf rfl (fun c26 => ?_) (fun c26 => ?_)
  ·
   refine W.sr (WL.z (W.ret (bodyQ.r1 (v := .bool _) results59 rfl ?_)))
   refine ⟨⟨_, rfl, ?_⟩, h⟩
   unfold allowP
   simp only [hal, false_or]
   first
   | (exfalso; omega)
   | (refine iff_of_true trivial ?_; omega)
   | (refine iff_of_false (by decide) ?_; omega)
   | (rw [decide_eq_true_iff]; omega)
  refine W.skip (W.sr (WL.z (W.ret (bodyQ.r1 (v := .bool _) results59 rfl ?_))))
  refine ⟨⟨_, rfl, ?_⟩, h⟩
  unfold allowP
  simp only [hal, false_or]
  first
  | (exfalso; omega)
  | (refine iff_of_true trivial ?_; omega)
  | (refine iff_of_false (by decide) ?_; omega)
  | (rw [decide_eq_true_iff]; omega)
 refine W.sr (WL.v (run_eql rfl rfl) (WL.z ?_))
 refine W.condIf rfl (fun c23 => ?_) (fun c23 => ?_)
 ·
  refine W.skip ?_
  refine W.condIf rfl (fun c26 => ?_) (fun c26 => ?_)
  ·
   refine W.sr (WL.z (W.ret (bodyQ.r1 (v := .bool _) results59 rfl ?_)))
   refine ⟨⟨_, rfl, ?_⟩, h⟩
   unfold allowP
   simp only [hal, false_or]
   first
   | (exfalso; omega)
   | (refine iff_of_true trivial ?_; omega)
   | (refine iff_of_false (by decide) ?_; omega)
   | (rw [decide_eq_true_iff]; omega)
  refine W.skip (W.sr (WL.z (W.ret (bodyQ.r1 (v := .bool _) results59 rfl ?_))))
  refine ⟨⟨_, rfl, ?_⟩, h⟩
  unfold allowP
  simp only [hal, false_or]
  first
  | (exfalso; omega)
  | (refine iff_of_true trivial ?_; omega)
  | (refine iff_of_false (by decide) ?_; omega)
  | (rw [decide_eq_true_iff]; omega)
 refine W.region (WL.v (run_eql rfl rfl) (WL.z ?_))
 refine W.condIf rfl (fun c26 => ?_) (fun c26 => ?_)
 ·
  refine W.sr (WL.z (W.ret (bodyQ.r1 (v := .bool _) results59 rfl ?_)))
  refine ⟨⟨_, rfl, ?_⟩, h⟩
  unfold allowP
  simp only [hal, false_or]
  first
  | (exfalso; omega)
  | (refine iff_of_true trivial ?_; omega)
  | (refine iff_of_false (by decide) ?_; omega)
  | (rw [decide_eq_true_iff]; omega)
 refine W.skip (W.sr (WL.z (W.ret (bodyQ.r1 (v := .bool _) results59 rfl ?_))))
 refine ⟨⟨_, rfl, ?_⟩, h⟩
 unfold allowP
 simp only [hal, false_or]
 first
 | (exfalso; omega)
 | (refine iff_of_true trivial ?_; omega)
 | (refine iff_of_false (by decide) ?_; omega)
 | (rw [decide_eq_true_iff]; omega)
theorem preempt1_ok {b8 : Nat} {k other : Int} {cs : List Value} {e : Nat} {fr : Nat × Nat} (h : On W0 L w) [HasBlk L b8 (.int .u64 other :: cs) e fr] : Calls Tryz.prog 124 #[.int .u64 k, .pointer (some ⟨b8, 0, none⟩)] w (Ret fun v w' => v = .bool (decide (k = other)) ∧ On W0 L w') := by
 refine enter func124 rfl ntmps124 rfl (W.sr (WL.z (W.sr (WL.m ?_))))
 refine WL.l isAgg27 rfl (h.cellB rfl) (WL.v (run_eql rfl rfl) (WL.z (W.ret (bodyQ.r1 (v := .bool _) results124 rfl ?_))))
 exact ⟨rfl, h⟩
end Go.Proofs.YtjfmjbmkkpkppaaGreatDoor
namespace Go.Sl
open Go
section
variable {P : Program} {w : World} {ρ : Operand → Value} {d : Option Nat} {ty : TypeId} {pos : String} {af : Array Edge} {g : Option (Nat × Bool)}
theorem run_compl32 {t : TypeId} {x : Operand} {m : Nat} (hx : ρ x = .int .u32 (m : Int)) (hm : m < 4294967296) :
   (execOp ρ ⟨d, .unOp .xor t x, ty, pos, af, g⟩).run P w = .ok (.value (.int .u32 ((4294967295 ^^^ m : Nat) : Int))) w := by
 have h1 : (BitVec.ofInt 32 (IntKind.u32.max) ^^^ BitVec.ofInt 32 (m : Int)).toNat = 4294967295 ^^^ m := by
   rw [BitVec.toNat_xor, BitVec.toNat_ofInt, BitVec.toNat_ofInt]
   have e1 : ((IntKind.u32.max % ((2 ^ 32 : Nat) : Int)).toNat) = 4294967295 := by decide
   have e2 : (((m : Int) % ((2 ^ 32 : Nat) : Int)).toNat) = m := by omega
   rw [e1, e2]
 have h2 : (4294967295 ^^^ m) < 2 ^ 32 := Nat.xor_lt_two_pow (by decide) (by omega)
 have h3 : IntKind.wrap .u32 ((4294967295 ^^^ m : Nat) : Int) = ((4294967295 ^^^ m : Nat) : Int) := wrap_in _ (by show (0 : Int) ≤ _; omega) (by show _ ≤ (4294967295 : Int); omega)
 have h5 : IntKind.u32.signed = false := rfl
 have h1' : (BitVec.ofInt IntKind.u32.bits IntKind.u32.max ^^^ BitVec.ofInt IntKind.u32.bits (m : Int)).toNat = 4294967295 ^^^ m := h1
 simp only [execOp, hx, Op.unary, Op.intBits, h5, Bool.false_eq_true, if_false, Sem.run_bind, Sem.run_pure, Result.andThen_ok, h1', h3]
theorem run_negBit {t : TypeId} {x : Operand} {m : Nat} (hx : ρ x = .int .u32 (m : Int)) (hm : m < 2) :
   (execOp ρ ⟨d, .unOp .neg t x, ty, pos, af, g⟩).run P w = .ok (.value (.int .u32 ((m * 4294967295 : Nat) : Int))) w := by
 have h : m = 0 ∨ m = 1 := by omega
 rcases h with rfl | rfl
 · simp [execOp, hx, Op.unary, Op.intArith, IntKind.wrap, IntKind.signed, IntKind.bits]
 simp [execOp, hx, Op.unary, Op.intArith, IntKind.wrap, IntKind.signed, IntKind.bits]
end
end Go.Sl
namespace Go.Sl.ByM
open Go Go.Sl
def putK (v n k : Nat) : List UInt8 := (List.range k).map fun (q : Nat) => UInt8.ofNat (v / 2 ^ (8 * (n - 1 - q)))
theorem putK_length (v n k : Nat) : (putK v n k).length = k := by simp [putK]
theorem putK_succ (v n k : Nat) : putK v n (k + 1) = putK v n k ++ [UInt8.ofNat (v / 2 ^ (8 * (n - 1 - k)))] := by simp [putK, List.range_succ]
abbrev be (v n : Nat) : List UInt8 := putK v n n
theorem be_length (v n : Nat) : (be v n).length = n := putK_length v n n
def beV (bs : List UInt8) : Nat := bs.foldl (fun v c => v * 256 + c.toNat) 0
theorem beV_snoc (bs : List UInt8) (c : UInt8) : beV (bs ++ [c]) = beV bs * 256 + c.toNat := by simp [beV]
theorem beV_lt (bs : List UInt8) : beV bs < 256 ^ bs.length := by
 rw [← List.reverse_reverse bs]
 generalize bs.reverse = l
 induction l with
 | nil => decide
 | cons c l ih =>
   rw [List.reverse_cons, beV_snoc, List.length_append, List.length_singleton, Nat.pow_succ]
   have := c.toNat_lt
   omega
theorem beV_putK (v n : Nat) : ∀ k, k ≤ n → beV (putK v n k) = v / 2 ^ (8 * (n - k)) % 256 ^ k
 | 0, _ => by simp [putK, beV, Nat.mod_one]
 | k + 1, h => by
   rw [putK_succ, beV_snoc, beV_putK v n k (by omega), show n - 1 - k = n - (k + 1) by omega]
   rw [UInt8.toNat_ofNat']
   have e : 8 * (n - k) = 8 * (n - (k + 1)) + 8 := by omega
   rw [e, Nat.pow_add, ← Nat.div_div_eq_div_mul]
   generalize v / 2 ^ (8 * (n - (k + 1))) = x
   rw [Nat.pow_succ]
   have h1 : x / 2 ^ 8 % 256 ^ k * 256 + x % 256 = x % (256 ^ k * 256) := by
     rw [Nat.mul_comm (256 ^ k) 256, Nat.mod_mul, show (2 : Nat) ^ 8 = 256 from rfl]
     omega
   exact h1
theorem beV_be {v n : Nat} (h : v < 256 ^ n) : beV (be v n) = v := by
 unfold be
 rw [beV_putK v n n (Nat.le_refl _), Nat.sub_self]
 simp
 exact Nat.mod_eq_of_lt h
theorem or_byte (v : Nat) (c : UInt8) : v * 256 ||| c.toNat = v * 256 + c.toNat := by
 have h : c.toNat < 2 ^ 8 := by have := c.toNat_lt; omega
 have := Nat.two_pow_add_eq_or_of_lt (i := 8) h v
 rw [Nat.mul_comm v 256]
 exact this.symm
def poly : Nat := 2197175160
def sN (v : Nat) : Nat := (v >>> 1) ^^^ (if v.testBit 0 then poly else 0)
def s4 (v : Nat) : Nat := sN (sN (sN (sN v)))
theorem sN_lin (a b : Nat) : sN (a ^^^ b) = sN a ^^^ sN b := by
 unfold sN
 rw [Nat.shiftRight_xor_distrib, Nat.testBit_xor]
 cases a.testBit 0 <;> cases b.testBit 0
 · simp
 · simp [Nat.xor_assoc]
 · simp only [Bool.xor_false, if_true, Bool.false_eq_true, if_false, Nat.xor_zero]
   rw [Nat.xor_assoc, Nat.xor_assoc, Nat.xor_comm (b >>> 1)]
 simp only [Bool.xor_self, Bool.false_eq_true, if_false, if_true, Nat.xor_zero]
 rw [Nat.xor_assoc, ← Nat.xor_assoc poly, Nat.xor_comm poly, Nat.xor_assoc, Nat.xor_self, Nat.xor_zero]
theorem s4_lin (a b : Nat) : s4 (a ^^^ b) = s4 a ^^^ s4 b := by
 unfold s4
 rw [sN_lin, sN_lin, sN_lin, sN_lin]
theorem sN_shift (x k : Nat) : sN (x <<< (k + 1)) = x <<< k := by
 unfold sN
 have h : (x <<< (k + 1)).testBit 0 = false := by rw [Nat.testBit_shiftLeft]; simp
 rw [h]
 simp only [Bool.false_eq_true, if_false, Nat.xor_zero]
 apply Nat.eq_of_testBit_eq
 intro i
 rw [Nat.testBit_shiftRight, Nat.testBit_shiftLeft, Nat.testBit_shiftLeft]
 by_cases hk : k ≤ i
 · simp [hk, show k + 1 ≤ 1 + i by omega, show 1 + i - (k + 1) = i - k by omega]
 simp [hk, show ¬ k + 1 ≤ 1 + i by omega]
theorem s4_shift (x : Nat) : s4 (x <<< 4) = x := by
 unfold s4
 rw [sN_shift x 3, sN_shift x 2, sN_shift x 1, sN_shift x 0]
 simp
theorem nibble (v : Nat) : v = ((v >>> 4) <<< 4) ^^^ (v % 16) := by
 apply Nat.eq_of_testBit_eq
 intro i
 rw [Nat.testBit_xor, Nat.testBit_shiftLeft, Nat.testBit_shiftRight]
 have e : v % 16 = v % 2 ^ 4 := rfl
 rw [e, Nat.testBit_mod_two_pow]
 by_cases h : 4 ≤ i
 · simp [h, show ¬ i < 4 by omega, show 4 + (i - 4) = i by omega]
 simp [h, show i < 4 by omega]
theorem s4_table (v : Nat) : (v >>> 4) ^^^ s4 (v % 16) = s4 v := by
 conv => rhs; rw [nibble v, s4_lin, s4_shift]
theorem sN_lt {v : Nat} (h : v < 4294967296) : sN v < 4294967296 := by
 unfold sN
 have h1 : v >>> 1 < 2 ^ 32 := by rw [Nat.shiftRight_eq_div_pow]; omega
 split
 · exact Nat.xor_lt_two_pow h1 (by decide)
 rw [Nat.xor_zero]; exact h1
theorem s4_lt {v : Nat} (h : v < 4294967296) : s4 v < 4294967296 := sN_lt (sN_lt (sN_lt (sN_lt h)))
def crcB (v : Nat) (c : UInt8) : Nat := s4 (s4 (v ^^^ c.toNat))
theorem crcB_lt {v : Nat} (h : v < 4294967296) (c : UInt8) : crcB v c < 4294967296 := s4_lt (s4_lt (Nat.xor_lt_two_pow (n := 32) h (by have := c.toNat_lt; omega)))
def crcR (v : Nat) (bs : List UInt8) : Nat := bs.foldl crcB v
theorem crcR_lt {v : Nat} (h : v < 4294967296) (bs : List UInt8) : crcR v bs < 4294967296 := by
 induction bs generalizing v with
 | nil => exact h
 | cons c bs ih => exact ih (crcB_lt h c)
theorem crcR_snoc (v : Nat) (bs : List UInt8) (c : UInt8) : crcR v (bs ++ [c]) = crcB (crcR v bs) c := by simp [crcR]
def crcS (bs : List UInt8) : Nat := 4294967295 ^^^ crcR 4294967295 bs
theorem crcS_lt (bs : List UInt8) : crcS bs < 4294967296 := Nat.xor_lt_two_pow (n := 32) (by decide) (crcR_lt (by decide) bs)
def four (s : Nat) : List UInt8 := [UInt8.ofNat s, UInt8.ofNat (s / 2 ^ 8), UInt8.ofNat (s / 2 ^ 16), UInt8.ofNat (s / 2 ^ 24)]
theorem four_length (s : Nat) : (four s).length = 4 := rfl
def sealB (bs : List UInt8) : List UInt8 := bs ++ four (crcS bs)
def openB (bs : List UInt8) : List UInt8 × Int := if bs.length < 4 then ([], 3) else if four (crcS (bs.take (bs.length - 4))) ≠ bs.drop (bs.length - 4) then ([], 4) else (bs.take (bs.length - 4), 0)
theorem step_mask (v : Nat) : (v / 2 ^ 1) ^^^ ((v % 2 ^ 1 * 4294967295) &&& poly) = sN v := by
 unfold sN
 rw [Nat.shiftRight_eq_div_pow]
 congr 1
 rw [Nat.testBit_zero]
 have h : v % 2 = 0 ∨ v % 2 = 1 := by omega
 rcases h with h | h
 · simp [h]
 simp [h]; decide
end Go.Sl.ByM
namespace Go.Sl.ByM
open Go Go.Sl
theorem cut_bytes {L : List HProp} {a : Option Addr} {c l h : Nat} {bs : List UInt8} (g : Gives L (Bytes (.slice a bs.length c) bs)) (hc : bs.length ≤ c) (h1 : l ≤ h) (h2 : h ≤ bs.length) :
   ∃ a' c', sliced a l h c 1 = .slice a' ((bs.drop l).take (h - l)).length c' ∧ Gives L (Bytes (.slice a' ((bs.drop l).take (h - l)).length c') ((bs.drop l).take (h - l))) := by
 have hlen : ((bs.drop l).take (h - l)).length = h - l := by rw [List.length_take, List.length_drop]; omega
 refine ⟨(if c = l then a else a.map (·.add (l * 1))), c - l, by rw [hlen]; rfl, fun hh H => ?_⟩
 have c1 := (g hh H).cut (l := l) (h := h) (m := c) h1 h2 (by omega) (Nat.le_refl _)
 have e : ((bytesV bs).drop (l * 1)).take ((h - l) * 1) = bytesV ((bs.drop l).take (h - l)) := by
   unfold bytesV
   rw [List.map_take, List.map_drop, Nat.mul_one, Nat.mul_one]
 rw [e] at c1
 unfold Bytes
 rw [hlen]
 exact c1
theorem front_bytes {L : List HProp} {a : Option Addr} {c h : Nat} {bs : List UInt8} (g : Gives L (Bytes (.slice a bs.length c) bs)) (h2 : h ≤ bs.length) :
   Gives L (Bytes (.slice a (bs.take h).length c) (bs.take h)) := fun hh H => by
 have hlen : (bs.take h).length = h := by rw [List.length_take]; omega
 have c1 := (g hh H).front (k := h) h2
 have e : (bytesV bs).take (h * 1) = bytesV (bs.take h) := by unfold bytesV; rw [List.map_take, Nat.mul_one]
 rw [e] at c1
 unfold Bytes
 rw [hlen]
 exact c1
def tabL (i : Nat) : List Value := (List.range 16).map fun j => .int .u32 ((if j < i then s4 j else 0 : Nat) : Int)
theorem tabL_set (i : Nat) (hi : i < 16) : (tabL i).set (i * 1) (.int .u32 (s4 i : Int)) = tabL (i + 1) := by
 rw [Nat.mul_one]
 unfold tabL
 apply List.ext_getElem
 · simp
 intro j h1 h2
 simp at h1
 rw [List.getElem_set]
 by_cases hj : i = j
 · subst hj; simp
 simp only [hj, if_false, List.getElem_map, List.getElem_range]
 by_cases h3 : j < i
 · simp [h3, show j < i + 1 by omega]
 simp [h3, show ¬ j < i + 1 by omega]
theorem tabL_length (i : Nat) : (tabL i).length = 16 := by simp [tabL]
theorem tabL_one (i : Nat) : ∀ u ∈ tabL i, u.oneCell' = true := by
 intro u hu
 obtain ⟨j, _, rfl⟩ := List.mem_map.1 hu
 rfl
theorem tab_row {i : Nat} (h : i < 16) : ((tabL 16).drop (i * 1)).take 1 = [.int .u32 (s4 i : Int)] := by
 rw [Nat.mul_one, List.drop_eq_getElem_cons (by rw [tabL_length]; exact h), List.take_succ_cons, List.take_zero]
 simp [tabL, h]
theorem take_splice0 {z vs : List Value} (h : z.length = vs.length) : splice z 0 vs = vs := by
 unfold splice
 rw [List.take_zero, List.nil_append, Nat.zero_add, ← h, List.drop_length, List.append_nil]
theorem s4_step (v : Nat) : (v / 2 ^ 4) ^^^ s4 (v % 2 ^ 4) = s4 v := by
 have := s4_table v
 rw [Nat.shiftRight_eq_div_pow] at this
 exact this
def itS : Nat → Nat → Nat
 | 0, v => v
 | k + 1, v => sN (itS k v)
theorem itS_lt {v : Nat} (h : v < 4294967296) : ∀ k, itS k v < 4294967296
 | 0 => h
 | k + 1 => sN_lt (itS_lt h k)
theorem itS4 (v : Nat) : itS 4 v = s4 v := rfl
end Go.Sl.ByM
namespace Go.Sl
open Go
section
variable {P : Program} {w : World} {ρ : Operand → Value} {d : Option Nat} {ty : TypeId} {pos : String} {af : Array Edge} {g : Option (Nat × Bool)}
theorem run_subNV {t yt : TypeId} {x y : Operand} {m n r : Nat} (hx : ρ x = .int .i64 (m : Int)) (hy : ρ y = .int .i64 (n : Int)) (h : n ≤ m) (h' : m ≤ 9223372036854775807) (hr : m - n = r) : (execOp ρ ⟨d, .binOp .sub t x y yt, ty, pos, af, g⟩).run P w = .ok (.value (.int .i64 (r : Int))) w := by
 rw [← hr]; exact run_subN hx hy h h'
end
end Go.Sl
namespace Go.Sl
open Go
section
variable {P : Program} {w : World} {ρ : Operand → Value} {d : Option Nat} {ty : TypeId} {pos : String} {af : Array Edge} {g : Option (Nat × Bool)}
end
end Go.Sl
namespace Go.Sl
open Go
section
variable {P : Program} {w : World} {ρ : Operand → Value} {d : Option Nat} {ty : TypeId} {pos : String} {af : Array Edge} {g : Option (Nat × Bool)}
theorem run_neqStrD {t yt : TypeId} {x y : Operand} {a b : List UInt8} (hx : ρ x = .string ⟨a.toArray⟩) (hy : ρ y = .string ⟨b.toArray⟩) : (execOp ρ ⟨d, .binOp .neq t x y yt, ty, pos, af, g⟩).run P w = .ok (.value (.bool (decide (a ≠ b)))) w := by
 rw [run_neqStr hx hy, Go.ByteArray.toList_eq, Go.ByteArray.toList_eq]
 simp
theorem run_eqlStrD {t yt : TypeId} {x y : Operand} {a b : List UInt8} (hx : ρ x = .string ⟨a.toArray⟩) (hy : ρ y = .string ⟨b.toArray⟩) : (execOp ρ ⟨d, .binOp .eql t x y yt, ty, pos, af, g⟩).run P w = .ok (.value (.bool (decide (a = b)))) w := by
 rw [run_eqlStr hx hy, Go.ByteArray.toList_eq, Go.ByteArray.toList_eq]
theorem run_cutHV {t e size n c h r : Nat} {kh : IntKind} {x y : Operand} {a : Option Addr} (hU : P.underlying t = some (.slice e)) (hS : ∀ w, (sizeOf e).run P w = .ok size w) (hx : ρ x = .slice a n c) (hy : ρ y = .int kh h) (h1 : h ≤ c) (hr : h = r) :
   (execOp ρ ⟨d, .slice t x none (some y) none, ty, pos, af, g⟩).run P w = .ok (.value (.slice a r c)) w := by rw [← hr]; exact run_cutH hU hS hx hy h1
end
end Go.Sl
namespace Go.Sl.UnM
open Go Go.Sl Go.Sl.BitM Go.Sl.SpM Go.Sl.RsM Go.Sl.ByM
structure Rp where
 st : Int
 key : Int
 code : Int
 data : List UInt8
 info : Int
deriving DecidableEq
def Rp.val (r : Rp) (dv : Value) : Value := .agg #[.int .i64 r.st, .int .i64 r.key, .int .i64 r.code, dv, .int .i64 r.info]
def Rp.cells (r : Rp) (dv : Value) : List Value := [.int .i64 r.st, .int .i64 r.key, .int .i64 r.code, dv, .int .i64 r.info]
def plain (s k c : Int) : Rp := ⟨s, k, c, [], 0⟩
def gave (bs : List UInt8) : Rp := ⟨0, 0, 0, bs, 0⟩
structure Cm where
 kind : Int
 at_ : Int
 n : Int
 data : List UInt8
 key : Int
 new : Int
 typ : Int
 force : Bool
def Cm.cells (c : Cm) (dv : Value) : List Value := [.int .i64 c.kind, .int .i64 c.at_, .int .i64 c.n, dv, .int .u64 c.key, .int .u64 c.new, .int .i64 c.typ, .bool c.force]
def Cm.val (c : Cm) (dv : Value) : Value := .agg #[.int .i64 c.kind, .int .i64 c.at_, .int .i64 c.n, dv, .int .u64 c.key, .int .u64 c.new, .int .i64 c.typ, .bool c.force]
structure Gs where
 codes : List Int
 floor : Int
 done : List (Int × Rp)
structure Un where
 s : Sp
 t : Tb
 g : List Gs
def newU (n : Nat) : Un := ⟨newS n, newT, List.replicate 8 ⟨[], 0, []⟩⟩
def diffAt : List UInt8 → List UInt8 → Nat
 | x :: xs, y :: ys => if x = y then diffAt xs ys + 1 else 0
 | _, _ => 0
theorem diffAt_eq : ∀ (xs ys : List UInt8) (i : Nat), xs[i]? ≠ ys[i]? → i < xs.length → i < ys.length → (∀ j, j < i → xs[j]? = ys[j]?) → diffAt xs ys = i
 | [], _, i, _, h, _, _ => by cases h
 | x :: xs, [], i, _, _, h, _ => by cases h
 | x :: xs, y :: ys, 0, h, _, _, _ => by
   have : x ≠ y := fun e => h (by simp [e])
   simp [diffAt, this]
 | x :: xs, y :: ys, i + 1, h, h1, h2, hj => by
   have h0 := hj 0 (by omega)
   simp at h0
   have := diffAt_eq xs ys i (by simpa using h) (by simpa using h1) (by simpa using h2) (fun j hji => by have := hj (j + 1) (by omega); simpa using this)
   simp [diffAt, h0, this]
def cmpM (s : Sp) (p q : Nat) (bs : List UInt8) : Sp × Rp :=
 if partS s p q = bs.take (8 * q) then (writeS s p (bs.drop (8 * q)), plain 0 0 0) else (s, ⟨2, 14, 7424, [], (diffAt (partS s p q) bs : Nat)⟩)
def runM (s : Sp) (c : Cm) : Sp × Rp :=
 if inS s c.at_ c.n then
   if c.kind = 2 then (s, gave (partS s c.at_.toNat c.n.toNat))
   else if c.kind = 3 then if (c.data.length : Int) = c.n * 8 then (writeS s c.at_.toNat c.data, plain 0 0 0) else (s, plain 2 5 9216)
   else if c.kind = 5 then (unmapS s c.at_.toNat c.n.toNat, plain 0 0 0)
   else if c.kind = 6 then if (c.data.length : Int) = 2 * (c.n * 8) then cmpM s c.at_.toNat c.n.toNat c.data else (s, plain 2 5 9216)
   else (s, plain 0 0 0)
 else (s, plain 2 5 8448)
def senseB (k c : Nat) : List UInt8 := [112, 0, UInt8.ofNat k, 0, 0, 0, 0, 10, 0, 0, 0, 0] ++ be c 2 ++ [0, 0, 0, 0]
theorem senseB_len (k c : Nat) : (senseB k c).length = 18 := by simp only [senseB, List.length_append, be_length, List.length_cons, List.length_nil]
def inqB : List UInt8 := [0, 0, 5, 2, 31, 0, 0, 0, 71, 69, 77, 69, 76, 32, 32, 32, 84, 87, 73, 78, 32, 68, 73, 83, 75, 32, 32, 32, 32, 32, 32, 32, 48, 48, 48, 49]
def capB (n : Nat) : List UInt8 := be (n - 1) 4 ++ be 8 4
def tellM (l : List Int) (c : Int) : List Int := if c ∈ l then l else l ++ [c]
def Gs.tell (g : Gs) (c : Int) : Gs := { g with codes := tellM g.codes c }
def Gs.pop (g : Gs) : Gs := { g with codes := g.codes.drop 1 }
def Un.guest (u : Un) (i : Nat) : Gs := u.g.getD i ⟨[], 0, []⟩
def Un.putG (u : Un) (i : Nat) (g : Gs) : Un := { u with g := u.g.set i g }
def Un.tell (u : Un) (i : Nat) (c : Int) : Un := u.putG i ((u.guest i).tell c)
def small (k : Nat) (u : Un) : Prop := ∀ i, i < 8 → (u.guest i).codes.length ≤ k
def okC (u : Un) : Prop := ∀ i, i < 8 → ∀ c ∈ (u.guest i).codes, 0 ≤ c ∧ c < 65536
def Un.setS (u : Un) (s : Sp) : Un := { u with s := s }
def resetN (u : Un) : Nat → Un
 | 0 => u
 | n + 1 => (resetN u n).tell n 10499
def okKB (t : Tb) (i : Nat) (key : Int) : Bool := !decide (t.K i = 0) && decide (t.K i = key)
def Un.setT (u : Un) (t : Tb) : Un := { u with t := t }
def notM (u : Un) (code : Int) (l : List Nat) : Un := l.foldl (fun u n => u.tell n code) u
structure Rv where
 t : Tb
 r : Rp
 l : List Nat
 code : Int
def regF (t : Tb) (i : Nat) (key fresh : Int) (ign : Bool) : Rv := if ign = true ∨ key = t.K i then ⟨(regO t i fresh).2, plain 0 0 0, (regO t i fresh).1, 10756⟩ else ⟨t, plain 24 0 0, [], 0⟩
def rsvF (t : Tb) (i : Nat) (key typ : Int) : Rv :=
 if okKB t i key = false then ⟨t, plain 24 0 0, [], 0⟩
 else if typedB typ = false then ⟨t, plain 2 5 9216, [], 0⟩
 else if t.hold = -1 then ⟨t.take i typ, plain 0 0 0, [], 0⟩
 else if t.hold = i ∧ t.typ = typ then ⟨t, plain 0 0 0, [], 0⟩
 else ⟨t, plain 24 0 0, [], 0⟩
def relF (t : Tb) (i : Nat) (key typ : Int) : Rv :=
 if okKB t i key = false then ⟨t, plain 24 0 0, [], 0⟩
 else if typedB typ = false then ⟨t, plain 2 5 9216, [], 0⟩
 else if t.hold ≠ i then ⟨t, plain 0 0 0, [], 0⟩
 else if t.typ ≠ typ then ⟨t, plain 2 5 9732, [], 0⟩
 else ⟨t.freed, plain 0 0 0, t.told i, 10756⟩
def clrF (t : Tb) (i : Nat) (key : Int) : Rv :=
 if okKB t i key = false then ⟨t, plain 24 0 0, [], 0⟩
 else ⟨t.cleared, plain 0 0 0, hostsN t.K i (fun _ => true) 8, 10755⟩
def preF (t : Tb) (i : Nat) (key other typ : Int) : Rv :=
 if okKB t i key = false then ⟨t, plain 24 0 0, [], 0⟩
 else if other = 0 then ⟨t, plain 2 5 9728, [], 0⟩
 else if preL t i other = [] then ⟨t, plain 24 0 0, [], 0⟩
 else if takesP t i other ∧ typedB typ = false then ⟨t, plain 2 5 9216, [], 0⟩
 else ⟨preT t i other typ, plain 0 0 0, preL t i other, 10757⟩
def rvM (t : Tb) (i : Nat) (c : Cm) : Rv :=
 if c.kind = 10 then regF t i c.key c.new false
 else if c.kind = 11 then regF t i c.key c.new true
 else if c.kind = 12 then rsvF t i c.key c.typ
 else if c.kind = 13 then relF t i c.key c.typ
 else if c.kind = 14 then clrF t i c.key
 else preF t i c.key c.new c.typ
def keysN (K : Nat → Int) : Nat → List Int
 | 0 => []
 | n + 1 => keysN K n ++ if K n = 0 then [] else [K n]
def keysB (t : Tb) : List UInt8 := be t.gen.toNat 4 ++ be (8 * (keysN t.K 8).length) 4 ++ (keysN t.K 8).flatMap fun k => be k.toNat 8
def holdK (t : Tb) : Int := if hostB t.hold = true then t.K t.hold.toNat else 0
def holdB (t : Tb) : List UInt8 := if t.typ = 0 then be t.gen.toNat 4 ++ be 0 4 else be t.gen.toNat 4 ++ be 16 4 ++ be (holdK t).toNat 8 ++ be 0 4 ++ be t.typ.toNat 2 ++ be 0 2
def resM (u : Un) (i : Nat) (c : Cm) : Un × Rp :=
 if c.kind = 16 then (u, gave (keysB u.t))
 else if c.kind = 17 then (u, gave (holdB u.t))
 else (notM (u.setT (rvM u.t i c).t) (rvM u.t i c).code (rvM u.t i c).l, (rvM u.t i c).r)
def actM (u : Un) (i : Nat) (c : Cm) : Un × Rp :=
 if c.kind = 1 then (u, plain 0 0 0)
 else if c.kind = 8 then (u, gave inqB)
 else if c.kind = 7 then (u, gave (capB u.s.N))
 else if c.kind ≤ 6 then (u.setS (runM u.s c).1, (runM u.s c).2)
 else if c.kind = 18 then (resetN u 8, plain 0 0 0)
 else resM u i c
def allowB (t : Tb) (h kind : Int) : Bool := decide (t.hold = -1) || decide (t.hold = h) || (t.regsB && hostB h && !decide (t.K h.toNat = 0)) || ((decide (kind = 1) || decide (kind = 2)) && (decide (t.typ = 1) || decide (t.typ = 5))) || !(decide (1 ≤ kind) && decide (kind ≤ 6))
theorem allowB_iff {t : Tb} {h kind : Int} : allowB t h kind = true ↔ allowP t h kind := by
 unfold allowB allowP alwP
 simp only [Bool.or_eq_true, Bool.and_eq_true, decide_eq_true_eq, Bool.not_eq_true', decide_eq_false_iff_not, hostB_iff, Bool.and_eq_false_iff]
 constructor
 · rintro ((((h1 | h1) | h1) | h1) | h1)
   · exact .inl (.inl h1)
   · exact .inl (.inr (.inl h1))
   · obtain ⟨⟨h1, h2, h3⟩, h4⟩ := h1
     exact .inl (.inr (.inr ⟨h1, h.toNat, by omega, by omega, h4⟩))
   · exact .inr (.inl h1)
   exact .inr (.inr (by omega))
 rintro ((h1 | h1 | ⟨h1, i, rfl, hi, hk⟩) | h1 | h1)
 · exact .inl (.inl (.inl (.inl h1)))
 · exact .inl (.inl (.inl (.inr h1)))
 · exact .inl (.inl (.inr ⟨⟨h1, by omega, by omega⟩, by simpa using hk⟩))
 · exact .inl (.inr h1)
 exact .inr (by omega)
abbrev PoolL := List (Value × List UInt8)
def cV (l : List Int) : List Value := l.map (Value.int .i64)
structure GX where
 s : Gs
 a : Option Addr
 c : Nat
 mb : Nat
 ck : Nat
 kvs : List KV
def GX.row (g : GX) : List Value := [.slice g.a g.s.codes.length g.c, .int .u64 g.s.floor, .map (some g.mb)]
def okD (pool : PoolL) (D : List (Int × Rp)) (kvs : List KV) : Prop := (kvs.map (·.1)).Perm (D.map (·.1)) ∧ (D.map (·.1)).Nodup ∧ ∀ x ∈ kvs, ∃ r dv, (x.1, r) ∈ D ∧ x.2.1 = r.val dv ∧ (dv, r.data) ∈ pool
abbrev CodesO (g : GX) : HProp := Own 1 (.slice g.a g.s.codes.length g.c) g.s.codes.length (cV g.s.codes)
def GOwn (pool : PoolL) (g : GX) : HProp := Pack (okD pool g.s.done g.kvs) [CodesO g, MapC g.mb .u64 g.kvs g.ck]
abbrev ucells (bs bt : Nat) (gs : List GX) : List Value := .pointer (some ⟨bs, 0, none⟩) :: .pointer (some ⟨bt, 0, none⟩) :: gs.flatMap GX.row
def UnP (TU TS TT bu : Nat) (pool : PoolL) (ms : List Nat) (u : Un) : HProp := Ex fun (x : Nat × Nat × List GX) => Pack ((x.2.2.map (·.s) = u.g ∧ x.2.2.map (·.mb) = ms) ∧ u.g.length = 8)
 [blk bu (ucells x.1 x.2.1 x.2.2) TU, SpP TS x.1 u.s, blk x.2.1 u.t.cells TT, Big (GOwn pool) x.2.2]
section
variable {W0 w : World} {L : List HProp} {TU TS TT bu bs bt : Nat} {pool : PoolL} {ms : List Nat} {u : Un} {gs : List GX} {g g' : GX} {i : Nat}
theorem openU (H : On W0 (UnP TU TS TT bu pool ms u :: L) w) : ∃ bs bt gs, (gs.map (·.s) = u.g ∧ gs.map (·.mb) = ms) ∧ u.g.length = 8 ∧ On W0 (blk bu (ucells bs bt gs) TU :: SpP TS bs u.s :: blk bt u.t.cells TT :: Big (GOwn pool) gs :: L) w := by
 obtain ⟨⟨b1, b2, gs⟩, H⟩ := H.ex
 obtain ⟨⟨h1, h2⟩, H⟩ := H.unpack
 exact ⟨b1, b2, gs, h1, h2, H⟩
theorem closeU (h1 : gs.map (·.s) = u.g ∧ gs.map (·.mb) = ms) (h2 : u.g.length = 8) (H : On W0 (blk bu (ucells bs bt gs) TU :: SpP TS bs u.s :: blk bt u.t.cells TT :: Big (GOwn pool) gs :: L) w) : On W0 (UnP TU TS TT bu pool ms u :: L) w :=
 On.exI (bs, bt, gs) (On.pack ⟨h1, h2⟩ H)
theorem openG (H : On W0 (GOwn pool g :: L) w) : okD pool g.s.done g.kvs ∧ On W0 (CodesO g :: MapC g.mb .u64 g.kvs g.ck :: L) w := H.unpack
theorem closeG (h1 : okD pool g.s.done g.kvs) (H : On W0 (CodesO g :: MapC g.mb .u64 g.kvs g.ck :: L) w) : On W0 (GOwn pool g :: L) w := On.pack h1 H
theorem row_of (h1' : gs.map (·.s) = u.g ∧ gs.map (·.mb) = ms) (h2 : u.g.length = 8) (hi : i < 8) : ∃ g, gs[i]? = some g ∧ g.s = u.guest i := by
 have h1 := h1'.1
 have hl : gs.length = 8 := by rw [← h2, ← h1, List.length_map]
 refine ⟨gs[i]'(by omega), by simp, ?_⟩
 unfold Un.guest
 rw [← h1, List.getD_eq_getElem?_getD, List.getElem?_map, List.getElem?_eq_getElem (by omega)]
 rfl
theorem put_map (h1 : gs.map (·.s) = u.g ∧ gs.map (·.mb) = ms) (hg : gs[i]? = some g) (e : g'.mb = g.mb) : (gs.set i g').map (·.s) = (u.putG i g'.s).g ∧ (gs.set i g').map (·.mb) = ms := by
 refine ⟨by rw [List.map_set, h1.1]; rfl, ?_⟩
 rw [List.map_set, h1.2, e]
 apply List.ext_getElem?
 intro j
 rw [List.getElem?_set]
 split
 · rename_i ej; subst ej
   have hlt := (List.getElem?_eq_some_iff.1 hg).1
   rw [if_pos (by rw [← h1.2, List.length_map]; exact hlt), ← h1.2, List.getElem?_map, hg]; rfl
 rfl
theorem put_len (h2 : u.g.length = 8) {x : Gs} : (u.putG i x).g.length = 8 := by show (u.g.set i x).length = 8; rw [List.length_set, h2]
theorem rows_get : ∀ {gs : List GX} {i k : Nat}, gs[i]? = some g → k < 3 → (gs.flatMap GX.row)[i * 3 + k]? = g.row[k]?
 | [], i, k, h, _ => by simp at h
 | x :: gs, 0, k, h, hk => by
   simp at h
   subst h
   rw [List.flatMap_cons, List.getElem?_append_left (by show _ < 3; omega), Nat.zero_mul, Nat.zero_add]
 | x :: gs, i + 1, k, h, hk => by
   rw [List.flatMap_cons, List.getElem?_append_right (by show 3 ≤ _; omega), show (i + 1) * 3 + k - x.row.length = i * 3 + k by show _ - 3 = _; omega]
   exact rows_get (by simpa using h) hk
theorem rows_set {v : Value} : ∀ {gs : List GX} {i k : Nat}, gs[i]? = some g → k < 3 → g'.row = g.row.set k v → (gs.flatMap GX.row).set (i * 3 + k) v = (gs.set i g').flatMap GX.row
 | [], i, k, h, _, _ => by simp at h
 | x :: gs, 0, k, h, hk, e => by
   simp at h
   subst h
   rw [List.flatMap_cons, List.set_append_left _ _ (by show _ < 3; omega), Nat.zero_mul, Nat.zero_add, ← e, List.set_cons_zero, List.flatMap_cons]
 | x :: gs, i + 1, k, h, hk, e => by
   rw [List.flatMap_cons, List.set_append_right _ _ (by show 3 ≤ _; omega), show (i + 1) * 3 + k - x.row.length = i * 3 + k by show _ - 3 = _; omega, rows_set (by simpa using h) hk e, List.set_cons_succ, List.flatMap_cons]
theorem ucell {k : Nat} {x : Value} (h : gs[i]? = some g) (hk : k < 3) (hx : g.row[k]? = some x) : (ucells bs bt gs)[0 + 2 + ((i : Nat) : Int).toNat * 3 + k]? = some x := by
 rw [show 0 + 2 + ((i : Nat) : Int).toNat * 3 + k = i * 3 + k + 1 + 1 by simp; omega]
 show (gs.flatMap GX.row)[i * 3 + k]? = _
 rw [rows_get h hk, hx]
theorem uset {k : Nat} {v : Value} (h : gs[i]? = some g) (hk : k < 3) (e : g'.row = g.row.set k v) : (ucells bs bt gs).set (0 + 2 + ((i : Nat) : Int).toNat * 3 + k) v = ucells bs bt (gs.set i g') := by
 rw [show 0 + 2 + ((i : Nat) : Int).toNat * 3 + k = i * 3 + k + 1 + 1 by simp; omega]
 show _ :: _ :: (gs.flatMap GX.row).set (i * 3 + k) v = _
 rw [rows_set h hk e]
theorem rows_len : ∀ {gs : List GX}, (gs.flatMap GX.row).length = 3 * gs.length
 | [] => rfl
 | x :: gs => by rw [List.flatMap_cons, List.length_append, rows_len, List.length_cons]; show 3 + _ = _; omega
theorem ult {k : Nat} (h : gs[i]? = some g) (hk : k < 3) : Nat.ble (0 + 2 + ((i : Nat) : Int).toNat * 3 + k + 1) (ucells bs bt gs).length = true := by
 have hi := (List.getElem?_eq_some_iff.1 h).1
 rw [Nat.ble_eq]
 show _ ≤ (gs.flatMap GX.row).length + 1 + 1
 rw [rows_len]; simp; omega
theorem guest_put (h2 : u.g.length = 8) (hi : i < 8) {x : Gs} : (u.putG i x).guest i = x := by
 show (u.g.set i x).getD i _ = x
 rw [List.getD_eq_getElem?_getD, List.getElem?_set, if_pos rfl, if_pos (by omega)]; rfl
theorem guest_other {j : Nat} (h : i ≠ j) {x : Gs} : (u.putG i x).guest j = u.guest j := by
 show (u.g.set i x).getD j _ = u.g.getD j _
 rw [List.getD_eq_getElem?_getD, List.getD_eq_getElem?_getD, List.getElem?_set, if_neg h]
theorem cV_one {l : List Int} : ∀ x ∈ cV l, x.oneCell' = true := fun x hx => by obtain ⟨y, _, rfl⟩ := List.mem_map.1 hx; rfl
theorem cut_codes {a : Option Addr} {c k : Nat} {l : List Int} (C : Gives L (Cells 1 (.slice a l.length c) l.length (cV l))) (hk : k ≤ l.length) (hc : l.length ≤ c) :
   ∃ a' c', sliced a k l.length c 1 = .slice a' (l.drop k).length c' ∧ Gives L (Cells 1 (.slice a' (l.drop k).length c') (l.drop k).length (cV (l.drop k))) := by
 refine ⟨if c = k then a else a.map (·.add (k * 1)), c - k, by rw [List.length_drop]; rfl, fun h H => ?_⟩
 have c1 := (C h H).cut (l := k) (h := l.length) (m := c) hk (Nat.le_refl _) hc (Nat.le_refl _)
 have e1 : ((cV l).drop (k * 1)).take ((l.length - k) * 1) = cV (l.drop k) := by
   rw [Nat.mul_one, Nat.mul_one, List.take_of_length_le (by simp [cV])]
   simp [cV, List.map_drop]
 rw [e1] at c1
 have e2 : sliced a k l.length c 1 = .slice (if c = k then a else a.map (·.add (k * 1))) (l.drop k).length (c - k) := by rw [List.length_drop]; rfl
 rw [e2] at c1
 rw [← List.length_drop] at c1
 exact c1
theorem cV_get {l : List Int} {k : Nat} {x : Int} (h : l[k]? = some x) : ((cV l).drop (k * 1)).take 1 = [.int .i64 x] := by
 have hlt := (List.getElem?_eq_some_iff.1 h).1
 have he := (List.getElem?_eq_some_iff.1 h).2
 unfold cV
 rw [Nat.mul_one, ← List.map_drop, ← List.map_take, List.drop_eq_getElem_cons hlt, List.take_succ_cons, List.take_zero, he]
 rfl
theorem set_same (h : gs[i]? = some g) : gs.set i g = gs := by
 apply List.ext_getElem?
 intro j
 rw [List.getElem?_set]
 split
 · rename_i e; subst e
   have := (List.getElem?_eq_some_iff.1 h).1
   rw [if_pos this, h]
 rfl
theorem putG_same (h2 : u.g.length = 8) (hi : i < 8) : u.putG i (u.guest i) = u := by
 have e : u.g.set i (u.guest i) = u.g := by
   apply List.ext_getElem?
   intro j
   rw [List.getElem?_set]
   split
   · rename_i e; subst e
     rw [if_pos (by omega)]
     unfold Un.guest
     rw [List.getD_eq_getElem?_getD, List.getElem?_eq_getElem (by omega)]; rfl
   rfl
 show ({ u with g := u.g.set i (u.guest i) } : Un) = u
 rw [e]
theorem tell_same {x : Int} (h2 : u.g.length = 8) (hi : i < 8) (h : x ∈ (u.guest i).codes) : u.tell i x = u := by
 have e0 : (u.guest i).tell x = u.guest i := by
   show ({ u.guest i with codes := if x ∈ (u.guest i).codes then (u.guest i).codes else (u.guest i).codes ++ [x] } : Gs) = _
   rw [if_pos h]
 unfold Un.tell
 rw [e0, putG_same h2 hi]
theorem tell_len {j : Nat} {x : Int} (h2 : u.g.length = 8) : (u.tell j x).g.length = 8 := put_len h2
theorem resetN_len (h2 : u.g.length = 8) : ∀ n, (resetN u n).g.length = 8
 | 0 => h2
 | n + 1 => tell_len (resetN_len h2 n)
theorem resetN_guest {j : Nat} : ∀ n, n ≤ j → (resetN u n).guest j = u.guest j
 | 0, _ => rfl
 | n + 1, h => by
   show ((resetN u n).putG n _).guest j = _
   rw [guest_other (by omega), resetN_guest n (by omega)]
def doM (u : Un) (h : Int) (c : Cm) : Un × Rp :=
 if hostB h = false ∨ c.kind < 1 ∨ 18 < c.kind then (u, plain 2 5 8192)
 else if c.kind = 9 then
   match (u.guest h.toNat).codes with
   | [] => (u, gave (senseB 0 0))
   | x :: l => (u.putG h.toNat (u.guest h.toNat).pop, gave (senseB 6 x.toNat))
 else if c.kind ≠ 8 ∧ (u.guest h.toNat).codes ≠ [] then (u.putG h.toNat (u.guest h.toNat).pop, plain 2 6 ((u.guest h.toNat).codes.headD 0))
 else if allowB u.t h c.kind = false then (u, plain 24 0 0)
 else actM u h.toNat c
theorem doM_bad {hh : Int} {c : Cm} (h : hostB hh = false ∨ c.kind < 1 ∨ 18 < c.kind) : doM u hh c = (u, plain 2 5 8192) := by unfold doM; rw [if_pos h]
theorem host_nat (hi : i < 8) : hostB (i : Int) = true := hostB_iff.2 ⟨by omega, by omega⟩
theorem doM_in {c : Cm} (hi : i < 8) (h1 : 1 ≤ c.kind) (h18 : c.kind ≤ 18) : ¬ (hostB (i : Int) = false ∨ c.kind < 1 ∨ 18 < c.kind) := by
 rw [host_nat hi]; rintro (h | h | h); cases h; omega; omega
theorem doM_sense0 {c : Cm} (hi : i < 8) (hk : c.kind = 9) (hc : (u.guest i).codes = []) : doM u i c = (u, gave (senseB 0 0)) := by
 unfold doM; rw [if_neg (doM_in hi (by omega) (by omega)), if_pos hk, Int.toNat_natCast, hc]
theorem doM_sense1 {c : Cm} {x : Int} {l : List Int} (hi : i < 8) (hk : c.kind = 9) (hc : (u.guest i).codes = x :: l) : doM u i c = (u.putG i (u.guest i).pop, gave (senseB 6 x.toNat)) := by
 unfold doM; rw [if_neg (doM_in hi (by omega) (by omega)), if_pos hk, Int.toNat_natCast, hc]
theorem doM_pop {c : Cm} {x : Int} {l : List Int} (hi : i < 8) (h1 : 1 ≤ c.kind) (h18 : c.kind ≤ 18) (h9 : c.kind ≠ 9) (h8 : c.kind ≠ 8) (hc : (u.guest i).codes = x :: l) : doM u i c = (u.putG i (u.guest i).pop, plain 2 6 x) := by
 unfold doM; rw [if_neg (doM_in hi h1 h18), if_neg h9, Int.toNat_natCast, if_pos ⟨h8, by rw [hc]; simp⟩, hc]; rfl
theorem doM_free {c : Cm} (h : c.kind = 8 ∨ (u.guest i).codes = []) : ¬ (c.kind ≠ 8 ∧ (u.guest i).codes ≠ []) := by
 rintro ⟨h1, h2⟩; rcases h with h | h; exact h1 h; exact h2 h
theorem doM_no {c : Cm} (hi : i < 8) (h1 : 1 ≤ c.kind) (h18 : c.kind ≤ 18) (h9 : c.kind ≠ 9) (h : c.kind = 8 ∨ (u.guest i).codes = []) (ha : ¬ allowP u.t i c.kind) : doM u i c = (u, plain 24 0 0) := by
 unfold doM; rw [if_neg (doM_in hi h1 h18), if_neg h9, Int.toNat_natCast, if_neg (doM_free h), if_pos (by rw [← Bool.not_eq_true, allowB_iff]; exact ha)]
theorem doM_go {c : Cm} (hi : i < 8) (h1 : 1 ≤ c.kind) (h18 : c.kind ≤ 18) (h9 : c.kind ≠ 9) (h : c.kind = 8 ∨ (u.guest i).codes = []) (ha : allowP u.t i c.kind) : doM u i c = actM u i c := by
 unfold doM; rw [if_neg (doM_in hi h1 h18), if_neg h9, Int.toNat_natCast, if_neg (doM_free h), if_neg (by rw [allowB_iff.2 ha]; decide)]
def zrow : List Value := [.slice none 0 0, .int .u64 0, .map none]
def zG (mb : Nat) : GX := ⟨⟨[], 0, []⟩, none, 0, mb, 0, []⟩
abbrev ncells (bs bt : Nat) (gs : List GX) (k : Nat) : List Value := .pointer (some ⟨bs, 0, none⟩) :: .pointer (some ⟨bt, 0, none⟩) :: (gs.flatMap GX.row ++ (List.replicate k zrow).flatten)
theorem nset {mb k : Nat} (hk : gs.length = i) : (ncells bs bt gs (k + 1)).set (0 + 2 + ((i : Nat) : Int).toNat * 3 + 2) (.map (some mb)) = ncells bs bt (gs ++ [zG mb]) k := by
 rw [show 0 + 2 + ((i : Nat) : Int).toNat * 3 + 2 = i * 3 + 2 + 1 + 1 by simp; omega]
 show _ :: _ :: (gs.flatMap GX.row ++ (List.replicate (k + 1) zrow).flatten).set (i * 3 + 2) _ = _ :: _ :: ((gs ++ [zG mb]).flatMap GX.row ++ (List.replicate k zrow).flatten)
 rw [List.set_append_right _ _ (by rw [rows_len]; omega), rows_len, hk, show i * 3 + 2 - 3 * i = 2 by omega, List.replicate_succ, List.flatten_cons, List.flatMap_append, List.append_assoc]
 rfl
theorem nlt {k : Nat} (hk : gs.length = i) : Nat.ble (0 + 2 + ((i : Nat) : Int).toNat * 3 + 2 + 1) (ncells bs bt gs (k + 1)).length = true := by
 rw [Nat.ble_eq]
 show _ ≤ (gs.flatMap GX.row ++ (List.replicate (k + 1) zrow).flatten).length + 1 + 1
 rw [List.length_append, rows_len, List.replicate_succ, List.flatten_cons, List.length_append]
 show _ ≤ 3 * gs.length + (3 + _) + 1 + 1
 simp; omega
theorem zG_own {mb : Nat} (H : On W0 (MapC mb .u64 [] 0 :: L) w) : On W0 (GOwn pool (zG mb) :: L) w :=
 closeG ⟨List.Perm.refl _, List.nodup_nil, fun x hx => by cases hx⟩ (H.ownEmpty 1 none)
end
end Go.Sl.UnM
namespace Go.Proofs.YtjfmjbmkkpkppaaGreatDoor
open Go.Proofs.Tryz
open Go Go.Sl Go.Sl.BitM Go.Sl.SpM Go.Sl.RsM Go.Sl.ByM Go.Sl.UnM
set_option maxHeartbeats 1000000
set_option maxRecDepth 8000
variable {W0 w : World} {L F : List HProp}
theorem bput_ok {ax : Option Addr} {cx v n : Nat} {bs : List UInt8} (h : On W0 L w) (C : Gives L (Bytes (.slice ax bs.length cx) bs)) (hn1 : 1 ≤ n) (hn8 : n ≤ 8) (hv : v < 18446744073709551616) (hb : bs.length ≤ 140737488350000) : Calls Tryz.prog 38 #[.slice ax bs.length cx, .int .u64 (v : Int), .int .i64 (n : Int)] (w) (Ret fun r w' => ∃ a, r = .slice a (bs ++ be v n).length (bs ++ be v n).length ∧ On W0 (OwnB (.slice a (bs ++ be v n).length (bs ++ be v n).length) (bs ++ be v n) :: L) w') := by
 refine enter func38 rfl ntmps38 rfl ?_
 have hmx := maxLen_eq
 unfold be
 refine W.sr (WL.z (W.sr (WL.m (WL.e (eff_call call47 (clone_bytes h C (by omega))) ?_))))
 rintro _ w ⟨a10, c10, rfl, h⟩
 refine WL.z (W.seq (W.sr (WL.m (WL.v (run_lssF rfl rfl (by omega)) (WL.m ?_)))))
 refine WL.m (WL.v (run_gtrF rfl rfl (by omega)) (WL.pf (WL.nil (W.cs (W.seq (W.seq ?_))))))
 refine W.region (WL.m (WL.v (run_subN (m := n) (n := 1) rfl rfl (by omega) (by omega)) (WL.z (W.block ?_))))
 refine W.loop (fun (k : Nat) env w => ∃ (j : Env) (ao : Option Addr) (co : Nat) (z : Int), env = mkE j [(1, .int .u64 (v : Int)), (7, .slice ao (bs ++ ByM.putK v n k).length co), (8, .int .i64 z)] ∧ k ≤ n ∧ z = (n : Int) - 1 - k ∧ On W0 (OwnB (.slice ao (bs ++ ByM.putK v n k).length co) (bs ++ ByM.putK v n k) :: L) w) (fun k => n - k) (0) ?_ ?_
 · have e0 : bs ++ ByM.putK v n 0 = bs := by simp [ByM.putK]
   refine ⟨_, a10, c10, ((n - 1 : Nat) : Int), mkE_of ⟨rfl, (by rw [e0]; rfl), rfl, trivial⟩, Nat.zero_le _, by omega, (by rw [e0]; exact h)⟩
 rintro k env w ⟨j, ao, co, z, rfl, hk, hz, h⟩
 have hpl : (bs ++ ByM.putK v n k).length = bs.length + k := by rw [List.length_append, ByM.putK_length]
 refine W.seq (W.sr (WL.m (WL.v (run_geq rfl rfl) (WL.nil ?_))))
 refine W.condIf rfl (fun c11 => ?_) (fun c11 => ?_)
 ·
  refine W.skip (W.seq (W.block ?_))
  have ob_ := Int.eq_ofNat_of_zero_le (show 0 ≤ z by omega)
  obtain ⟨q, rfl⟩ := ob_
  have hq : n - 1 - k = q := by omega
  have e1 : bs ++ ByM.putK v n (k + 1) = (bs ++ ByM.putK v n k) ++ [UInt8.ofNat (v / 2 ^ (8 * q))] := by rw [ByM.putK_succ, hq, List.append_assoc]
  have el : (bs ++ ByM.putK v n (k + 1)).length = (bs ++ ByM.putK v n k).length + 1 := by rw [e1, List.length_append]; rfl
  refine W.region (WL.m (WL.m (WL.m (WL.v (run_mulN (m := 8) (n := q) rfl rfl (by omega)) (WL.v (run_shrN (m := v) (j := 8 * q) rfl rfl (by show 8 * q ≤ 64; omega)) (WL.v (run_convByte underlying27 underlying5 rfl) (WL.e (eff_mkSlice (zl := [.int .u8 0]) (out := [.int .u8 _]) h underlying26 sizeOf5 zeroValue5 (by decide) (by kernel_rfl) rfl rfl (by simp) (⟨⟨_, _, rfl, rfl, by decide⟩, trivial⟩) rfl rfl (by simp [maxLen])) ?_)))))))
  rintro _ w ⟨b30, rfl, h⟩
  refine WL.e (eff_app (c2 := 1) (bytes := 1) h rfl rfl (h.cellsO (v := .slice (some ⟨b30, 0, none⟩) 1 1)) underlying26 rfl rfl rfl rfl rfl (by omega) (by omega) (by simp [Value.oneCell'])) ?_
  rintro _ w ⟨a31, c31, rfl, h⟩
  have hbv : bytesV (bs ++ ByM.putK v n k) ++ [.int .u8 (((UInt8.ofNat (v / 2 ^ (8 * q))).toNat : Nat) : Int)] = bytesV ((bs ++ ByM.putK v n k) ++ [UInt8.ofNat (v / 2 ^ (8 * q))]) := by simp [bytesV, byteV]
  have h : On W0 (Own 1 (.slice a31 ((bs ++ ByM.putK v n k).length + 1) c31) ((bs ++ ByM.putK v n k).length + 1) (bytesV (bs ++ ByM.putK v n k) ++ [.int .u8 (((UInt8.ofNat (v / 2 ^ (8 * q))).toNat : Nat) : Int)]) :: _) w := h
  rw [hbv] at h
  refine WL.z (W.region (WL.m (WL.v (run_sub rfl rfl (by omega) (by omega)) (WL.z ?_))))
  exact ⟨k + 1, ⟨_, a31, c31, (q : Int) - 1, mkE_of ⟨rfl, (by rw [el]; rfl), rfl, trivial⟩, by omega, by omega, (by unfold OwnB; rw [el, e1]; exact h.to)⟩, by show n - (k + 1) < n - k; omega⟩
 refine W.exit (W.sr (WL.m (WL.e (eff_call call43 (clip_bytes h)) ?_)))
 rintro _ w ⟨rfl, h⟩
 refine WL.z (W.ret (bodyQ.r1 (v := .slice _ _ _) results38 rfl ?_))
 have ob_ : k = n := by omega
 obtain rfl := ob_
 exact ⟨ao, rfl, h⟩
theorem bget_ok {ax : Option Addr} {cx : Nat} {bs : List UInt8} {at_ n : Int} (h : On W0 L w) (C : Gives L (Bytes (.slice ax bs.length cx) bs)) : Calls Tryz.prog 52 #[.slice ax bs.length cx, .int .i64 at_, .int .i64 n] (w) (Ret fun v w' => ((1 ≤ n ∧ n ≤ 8 ∧ 0 ≤ at_ ∧ at_ ≤ bs.length ∧ n ≤ bs.length - at_) ∧ v = .tuple #[.int .u64 (beV ((bs.drop at_.toNat).take n.toNat) : Int), .bool true] ∧ On W0 L w') ∨ (¬ (1 ≤ n ∧ n ≤ 8 ∧ 0 ≤ at_ ∧ at_ ≤ bs.length ∧ n ≤ bs.length - at_) ∧ v = .tuple #[.int .u64 0, .bool false] ∧ On W0 L w')) := by
 refine enter func52 rfl ntmps52 rfl ?_
 have hmx := maxLen_eq
 have ob_ := Cells.bounds (h.readsTo C)
 obtain ⟨hbc, hbm⟩ := ob_
 refine W.sr (WL.a (WL.z (W.seq (W.sr ?_))))
 refine WL.m ?_
 refine WL.q (run_lss rfl rfl) (fun c12 => ?_) (fun c12 => ?_)
 ·
  refine WL.m (WL.s (WL.s (WL.pt (WL.m (WL.s (WL.s (WL.pt ?_)))))))
  refine WL.m (WL.s (WL.s (WL.s (WL.s (WL.pt (WL.m (WL.s ?_)))))))
  refine WL.s (WL.s (WL.s (WL.s (WL.s (WL.pt (WL.nil (W.ct ?_)))))))
  refine W.sr (WL.a (WL.z (W.ret (bodyQ.r2 (v1 := .int .u64 _) (v2 := .bool _) results52 rfl rfl ?_))))
  exact .inr ⟨by omega, rfl, h⟩
 refine WL.m (WL.m ?_)
 refine WL.q (run_gtr rfl rfl) (fun c15 => ?_) (fun c15 => ?_)
 ·
  refine WL.pf (WL.m (WL.s (WL.s (WL.pt (WL.m (WL.s (WL.s ?_)))))))
  refine WL.s (WL.s (WL.pt (WL.m (WL.s (WL.s (WL.s (WL.s ?_)))))))
  refine WL.s (WL.s (WL.pt (WL.nil (W.ct (W.sr (WL.a ?_))))))
  refine WL.z (W.ret (bodyQ.r2 (v1 := .int .u64 _) (v2 := .bool _) results52 rfl rfl ?_))
  exact .inr ⟨by omega, rfl, h⟩
 refine WL.pf (WL.m (WL.m ?_))
 refine WL.q (run_lss rfl rfl) (fun c19 => ?_) (fun c19 => ?_)
 ·
  refine WL.pf (WL.m (WL.s (WL.s (WL.s (WL.s (WL.pt (WL.m ?_)))))))
  refine WL.s (WL.s (WL.s (WL.s (WL.s (WL.s (WL.pt (WL.nil ?_)))))))
  refine W.ct (W.sr (WL.a (WL.z (W.ret (bodyQ.r2 (v1 := .int .u64 _) (v2 := .bool _) results52 rfl rfl ?_)))))
  exact .inr ⟨by omega, rfl, h⟩
 refine WL.pf (WL.m (WL.m (WL.m (WL.v (run_lenSlice underlying26 rfl) ?_))))
 refine WL.q (run_gtr rfl rfl) (fun c25 => ?_) (fun c25 => ?_)
 ·
  refine WL.pf (WL.m (WL.s (WL.s (WL.s (WL.s (WL.s (WL.s ?_)))))))
  refine WL.pt (WL.nil (W.ct (W.sr (WL.a (WL.z ?_)))))
  refine W.ret (bodyQ.r2 (v1 := .int .u64 _) (v2 := .bool _) results52 rfl rfl ?_)
  exact .inr ⟨by omega, rfl, h⟩
 refine WL.pf (WL.m (WL.m (WL.m (WL.v (run_lenSlice underlying26 rfl) (WL.m (WL.v (run_sub rfl rfl (by omega) (by omega)) (WL.v (run_gtr rfl rfl) ?_)))))))
 refine WL.pf (WL.nil ?_)
 refine W.condIf rfl (fun c2 => ?_) (fun c2 => ?_)
 ·
  refine W.sr (WL.a (WL.z (W.ret (bodyQ.r2 (v1 := .int .u64 _) (v2 := .bool _) results52 rfl rfl ?_))))
  exact .inr ⟨by omega, rfl, h⟩
 refine W.skip (W.seq ?_)
 have hok : (1 ≤ n ∧ n ≤ 8 ∧ 0 ≤ at_ ∧ at_ ≤ bs.length ∧ n ≤ bs.length - at_) := by omega
 have ob_ := Int.eq_ofNat_of_zero_le (show 0 ≤ at_ by omega)
 obtain ⟨p, rfl⟩ := ob_
 have ob_ := Int.eq_ofNat_of_zero_le (show 0 ≤ n by omega)
 obtain ⟨q, rfl⟩ := ob_
 have hpq : p + q ≤ bs.length := by omega
 have ob_ := cut_bytes (l := p) (h := p + q) C hbc (by omega) hpq
 obtain ⟨a', c', hcut, gC⟩ := ob_
 have hpl : ((bs.drop p).take (p + q - p)).length = q := by rw [List.length_take, List.length_drop]; omega
 have epq : p + q - p = q := by omega
 rw [epq] at hcut gC hpl
 refine W.region (WL.z (W.seq (W.sr (WL.m (WL.m ?_)))))
 refine WL.m (WL.m (WL.v (run_addN (m := p) (n := q) rfl rfl (by omega)) (WL.v (run_cutLHV (l := p) (h := p + q) underlying26 sizeOf5 rfl rfl rfl (by omega) (by omega) hcut) (WL.v (run_lenSlice underlying26 rfl) (WL.m (WL.nil (W.block ?_)))))))
 refine W.loop (fun (k : Nat) env w => k ≤ q ∧ ∃ j, env = mkE j [(8, .int .u64 (beV ((bs.drop p).take k) : Nat)), (40, .slice a' ((bs.drop p).take q).length c'), (41, .int .i64 (((bs.drop p).take q).length : Nat)), (42, .int .i64 (k : Nat))] ∧ On W0 L w) (fun k => q - k) (0) ?_ ?_
 · exact ⟨Nat.zero_le _, _, mkE_of ⟨rfl, rfl, rfl, rfl, trivial⟩, h⟩
 rintro k env w ⟨hk, j, rfl, h⟩
 refine W.sr (WL.v (run_lss rfl rfl) (WL.nil (W.seq ?_)))
 refine W.condIf rfl (fun c11 => ?_) (fun c11 => ?_)
 ·
  refine W.skip (W.seq (W.block (W.seq ?_)))
  have hkq : k < q := by omega
  have ob_ : ∃ c, ((bs.drop p).take q)[k]? = some c := ⟨((bs.drop p).take q)[k]'(by omega), List.getElem?_eq_getElem _⟩
  obtain ⟨c, hc⟩ := ob_
  have hc2 : (bs.drop p)[k]? = some c := by rw [List.getElem?_take, if_pos hkq] at hc; exact hc
  have gg := h.readsTo gC
  have ob_ := Cells.addr gg (by omega)
  obtain ⟨ba, oa, haa⟩ := ob_
  subst haa
  have hlt : beV ((bs.drop p).take k) < 2 ^ 56 := by
    have h1 := beV_lt ((bs.drop p).take k)
    have h2 : ((bs.drop p).take k).length ≤ 7 := by rw [List.length_take]; omega
    have h3 : 256 ^ ((bs.drop p).take k).length ≤ 256 ^ 7 := Nat.pow_le_pow_right (by decide) h2
    omega
  have hstep : beV ((bs.drop p).take (k + 1)) = beV ((bs.drop p).take k) * 2 ^ 8 ||| c.toNat := by
    rw [Go.Sl.take_snoc hc2, beV_snoc, show (2 : Nat) ^ 8 = 256 from rfl, or_byte]
  have hc8 := c.toNat_lt
  have hb1 : beV ((bs.drop p).take k) * 2 ^ 8 ≤ 18446744073709551615 := by omega
  have hb2 : c.toNat ≤ 18446744073709551615 := by omega
  have hb3 : beV ((bs.drop p).take k) * 2 ^ 8 ||| c.toNat ≤ 18446744073709551615 := by
    rw [← hstep]
    have h1 := beV_lt ((bs.drop p).take (k + 1))
    have h2 : ((bs.drop p).take (k + 1)).length ≤ 8 := by rw [List.length_take]; omega
    have h3 : 256 ^ ((bs.drop p).take (k + 1)).length ≤ 256 ^ 8 := Nat.pow_le_pow_right (by decide) h2
    omega
  refine W.region (WL.v (run_indexAddr underlying26 sizeOf5 rfl rfl (by omega) (by omega)) (WL.l isAgg5 rfl ((h.readsTo gC).elem (i := k) (vs := [.int .u8 (c.toNat : Int)]) (by omega) (bytes_row hc) 0 _ rfl) (WL.z (W.region (WL.m (WL.v (run_shlN (m := beV ((bs.drop p).take k)) (j := 8) rfl rfl (by decide) (Int.ofNat_le.2 hb1)) ?_))))))
  refine WL.m (WL.v (run_convIn underlying5 underlying27 rfl (by show (0 : Int) ≤ _; omega) (Int.ofNat_le.2 hb2)) (WL.v (run_orN (k := .u64) (m := beV ((bs.drop p).take k) * 2 ^ 8) (n := c.toNat) rfl rfl (Int.ofNat_le.2 hb1) (Int.ofNat_le.2 hb2) (Int.ofNat_le.2 hb3)) (WL.z (W.region (WL.v (run_add rfl rfl (by omega) (by omega)) (WL.m ?_))))))
  refine WL.nil ?_
  exact ⟨k + 1, ⟨by omega, _, mkE_of ⟨(congrArg (fun z : Nat => Value.int .u64 (z : Int)) hstep).symm, rfl, rfl, rfl, trivial⟩, h⟩, by show q - (k + 1) < q - k; omega⟩
 refine W.exit (W.sr (WL.m (WL.a (WL.z (W.ret ?_)))))
 refine bodyQ.r2 (v1 := .int .u64 _) (v2 := .bool _) results52 rfl rfl ?_
 have ob_ : k = q := by omega
 obtain rfl := ob_
 exact .inl ⟨hok, rfl, h⟩
theorem clone_ints {ao : Option Addr} {cap : Nat} {l : List Int} (h : On W0 L w) (C : Gives L (Cells 1 (.slice ao l.length cap) l.length (cV l))) (hn : l.length ≤ 1000000000000) :
   Calls Tryz.prog 78 #[.slice ao l.length cap] w (Ret fun v w' => ∃ a c, v = .slice a l.length c ∧ On W0 (Own 1 (.slice a l.length c) l.length (cV l) :: L) w') := by
 refine enter func78 rfl ntmps78 rfl ?_
 have ob_ := (h.reads C).form
 obtain ⟨ao', cap', hv, hnc, hcm, hnone⟩ := ob_
 simp only [Value.slice.injEq] at hv
 obtain ⟨rfl, _, rfl⟩ := hv
 have hl := maxLen_eq
 refine W.sr (WL.z (W.seq (W.sr (WL.m ?_))))
 refine WL.v (run_eqlSliceNil underlying102 rfl rfl) (WL.nil ?_)
 refine W.condB rfl (fun c2 => ?_) (fun c2 => ?_)
 ·
  refine W.sr (WL.z (W.ret (bodyQ.r1 (v := .slice _ _ _) results78 rfl ?_)))
  have h0 : cap = 0 := hnone (by simpa using c2)
  have hb : l = [] := List.eq_nil_of_length_eq_zero (by omega)
  subst hb
  exact ⟨none, 0, rfl, h.ownEmpty 1 none⟩
 refine W.skip (W.sr (WL.e (eff_mkSlice (zl := []) (out := []) h underlying102 sizeOf3 zeroValue3 (by decide) (by simp) rfl rfl (by simp) (trivial) rfl rfl (by simp [maxLen])) ?_))
 rintro _ w ⟨b5, rfl, h⟩
 refine WL.m (WL.e (eff_app0 (bytes := 8) h rfl rfl (h.readsTo C) underlying102 rfl rfl rfl rfl rfl (by omega) (by omega) (cV_one)) ?_)
 rintro _ w ⟨a, c, rfl, h⟩
 refine WL.z (W.ret (bodyQ.r1 (v := .slice _ _ _) results78 rfl ?_))
 exact ⟨_, _, rfl, h⟩
theorem index_ints {ao : Option Addr} {cap : Nat} {l : List Int} {x : Int} (h : On W0 L w) (C : Gives L (Cells 1 (.slice ao l.length cap) l.length (cV l))) : Calls Tryz.prog 140 #[.slice ao l.length cap, .int .i64 x] w (Ret fun v w' => (∃ z : Int, v = .int .i64 z ∧ (0 ≤ z ↔ x ∈ l)) ∧ On W0 L w') := by
 refine enter func140 rfl ntmps140 rfl ?_
 have hmx := maxLen_eq
 have ob_ := (h.readsTo C).bounds
 obtain ⟨hbc, hbm⟩ := ob_
 refine W.sr (WL.z (W.seq (W.sr (WL.m ?_))))
 refine WL.v (run_lenSlice underlying102 rfl) (WL.m (WL.nil (W.block ?_)))
 refine W.loop (fun (k : Nat) env w => k ≤ l.length ∧ ∃ j, env = mkE j [(0, .slice ao l.length cap), (1, .int .i64 x), (7, .int .i64 (l.length : Nat)), (8, .int .i64 (k : Nat))] ∧ (∀ q, q < k → l[q]? ≠ some x) ∧ On W0 L w) (fun k => l.length - k) (0) ?_ ?_
 · exact ⟨Nat.zero_le _, _, mkE_of ⟨rfl, rfl, rfl, rfl, trivial⟩, (fun q hq => by omega), h⟩
 rintro k env w ⟨hk, j, rfl, hno, h⟩
 refine W.sr (WL.v (run_lss rfl rfl) (WL.nil (W.seq ?_)))
 refine W.condIf rfl (fun c5 => ?_) (fun c5 => ?_)
 ·
  refine W.skip (W.seq ?_)
  have ob_ : ∃ y, l[k]? = some y := ⟨l[k]'(by omega), by simp⟩
  obtain ⟨y, hy⟩ := ob_
  have ob_ := (h.readsTo C).addr (by omega)
  obtain ⟨bx, ox, rfl⟩ := ob_
  refine W.block (W.sr (WL.m (WL.z (W.sr ?_))))
  refine WL.m (WL.m (WL.m (WL.v (run_indexAddr underlying102 sizeOf3 rfl rfl (by omega) (by omega)) (WL.l isAgg3 rfl ((h.readsTo C).elem (i := k) (vs := [.int .i64 y]) (by omega) (cV_get hy) 0 _ rfl) (WL.v (run_eql rfl rfl) (WL.nil ?_))))))
  refine W.condIf rfl (fun c11 => ?_) (fun c11 => ?_)
  ·
   refine W.sr (WL.m (WL.z (W.ret (bodyQ.r1 (v := .int .i64 _) results140 rfl ?_))))
   have e : x = y := c11
   subst e
   exact ⟨⟨_, rfl, iff_of_true (by omega) (List.mem_of_getElem? hy)⟩, h⟩
  refine W.skip (W.region (WL.v (run_incN rfl rfl (by omega)) (WL.m (WL.nil ?_))))
  exact ⟨k + 1, ⟨by omega, _, mkE_of ⟨rfl, rfl, rfl, rfl, trivial⟩, (fun q hq => by
    by_cases hqk : q = k
    · subst hqk; rw [hy]; intro e; simp only [Option.some.injEq] at e; exact c11 e.symm
    exact hno q (by omega)), h⟩, by show l.length - (k + 1) < l.length - k; omega⟩
 refine W.exit (W.sr (WL.z (W.ret (bodyQ.r1 (v := .int .i64 _) results140 rfl ?_))))
 refine ⟨⟨_, rfl, iff_of_false (by decide) (fun hm => ?_)⟩, h⟩
 have ob_ := List.getElem?_of_mem hm
 obtain ⟨q, hq⟩ := ob_
 exact hno q (by have := (List.getElem?_eq_some_iff.1 hq).1; omega) hq
theorem contains_ints {ao : Option Addr} {cap : Nat} {l : List Int} {x : Int} (h : On W0 L w) (C : Gives L (Cells 1 (.slice ao l.length cap) l.length (cV l))) : Calls Tryz.prog 126 #[.slice ao l.length cap, .int .i64 x] w (Ret fun v w' => v = .bool (decide (x ∈ l)) ∧ On W0 L w') := by
 refine enter func126 rfl ntmps126 rfl (W.sr (WL.z (W.sr (WL.m ?_))))
 refine WL.m (WL.e (eff_call call140 (index_ints h C)) ?_)
 rintro _ w ⟨⟨z, rfl, hz⟩, h⟩
 refine WL.v (run_geq rfl rfl) (WL.z (W.ret (bodyQ.r1 (v := .bool _) results126 rfl ?_)))
 exact ⟨congrArg Value.bool (decide_eq_decide.2 hz), h⟩
theorem sgood_ok {ax : Option Addr} {cx : Nat} {bs : List UInt8} (h : On W0 L w) (C : Gives L (Bytes (.slice ax bs.length cx) bs)) (hn : bs.length ≤ 1000000000000) : Calls Tryz.prog 58 #[.slice ax bs.length cx] w (Ret fun v w' => ∃ a, v = (gave bs).val (.slice a bs.length bs.length) ∧ On W0 (OwnB (.slice a bs.length bs.length) bs :: L) w') := by
 refine enter func58 rfl ntmps58 rfl (W.sr (WL.e (eff_alloc h zeroValue44 rfl) ?_))
 rintro _ w ⟨b2, rfl, h⟩
 refine WL.nil (W.sr (WL.m (WL.e (eff_call call47 (clone_bytes (bs := bs) h (Gives.to C) (by omega))) ?_)))
 rintro _ w ⟨a4, c4, rfl, h⟩
 refine WL.e (eff_call call43 (clip_bytes h)) ?_
 rintro _ w ⟨rfl, h⟩
 refine WL.v (run_buildS (pl := qp0) (out := qv0) underlying44 zeroValue44 (fun w => by kernel_rfl) rfl (⟨⟨_, _, rfl, rfl, by decide⟩, ⟨⟨_, _, rfl, rfl, by decide⟩, trivial⟩⟩) rfl) (WL.e (eff_storeW (vs := qv0) h sizeOf44 rfl rfl rfl rfl rfl) ?_)
 rintro _ w h
 refine WL.nil (W.ret (bodyQ.rcB (vs := qv0) h results58 isAgg44 sizeOf44 rfl rfl rfl ?_))
 exact ⟨a4, rfl, h.to⟩
theorem laid1_ok {bx bo n k at_ cy : Nat} {ay : Option Addr} {xs ys : List UInt8} (hat : at_ < n) (hk : ys.length = k) (hin : at_ + k ≤ n) (hn : n ≤ 1000) (h : On W0 (blk bx [.slice (some ⟨bo, 0, none⟩) n n] 26 :: Own 1 (.slice (some ⟨bo, 0, none⟩) n n) n (bytesV xs) :: L) w) (C : Gives L (Bytes (.slice ay ys.length cy) ys)) : Calls Tryz.prog 98 #[.int .i64 (at_ : Int), .slice ay k cy, .pointer (some ⟨bx, 0, none⟩)] w (Ret fun v w' => On W0 (blk bx [.slice (some ⟨bo, 0, none⟩) n n] 26 :: Own 1 (.slice (some ⟨bo, 0, none⟩) n n) n (bytesV (over xs at_ ys)) :: L) w') := by
 refine enter func98 rfl ntmps98 rfl ?_
 subst hk
 have ob_ := sliced_part (b := bo) (o := 0) (lo := at_) (hi := n) (c := n) (by omega) (Nat.le_refl _)
 obtain ⟨lo, hlo, hlo2⟩ := ob_
 have hlo3 : lo = at_ := by omega
 subst hlo3
 refine W.region (WL.l isAgg26 rfl (h.cellB rfl) (WL.m (WL.v (run_cutLV underlying26 sizeOf5 rfl rfl (by omega) hlo) (WL.m (WL.e (eff_copyIn (lo := lo) (m := n - lo) h.p1 rfl rfl (h.readsTo C) rfl underlying26 sizeOf5 (by omega) bytes_one) ?_)))))
 rintro _ w ⟨_, h⟩
 rw [List.take_of_length_le (by simp; omega), bytesV_over] at h
 refine WL.nil (bodyQ.fall (bodyQ.r0 results98 ?_))
 exact h.to
end Go.Proofs.YtjfmjbmkkpkppaaGreatDoor
namespace Go.Sl.TpM
open Go Go.Sl Go.Sl.ByM
structure Pd where
 op : Nat
 fin : Bool
 flags : Nat
 st : Nat
 tag : Nat
 sn : Nat
 exp : Nat
 max : Nat
 off : Nat
 len : Nat
 cdb : List UInt8
 data : List UInt8
abbrev z16 : List UInt8 := List.replicate 16 0
abbrev zPd : Pd := ⟨0, false, 0, 0, 0, 0, 0, 0, 0, 0, z16, []⟩
def knownOp (op : Nat) : Bool := decide (op = 0) || decide (op = 1) || decide (op = 2) || decide (op = 3) || decide (op = 5) || decide (op = 6) || decide (op = 32) || decide (op = 33) || decide (op = 34) || decide (op = 35) || decide (op = 37) || decide (op = 38) || decide (op = 49) || decide (op = 63)
def padM (d : List UInt8) : List UInt8 := d ++ List.replicate ((4 - d.length % 4) % 4) 0
def flagM (p : Pd) : Nat := p.flags + if p.fin then 128 else 0
def nums (p : Pd) : List Nat := [p.tag, p.sn, p.exp, p.max, p.off, p.len]
def head8 (p : Pd) : List UInt8 := [UInt8.ofNat p.op, UInt8.ofNat (flagM p), UInt8.ofNat p.st, 0] ++ be p.data.length 4
def headK (p : Pd) (k : Nat) : List UInt8 := head8 p ++ ((nums p).take k).flatMap fun v => be v 4
def head48 (p : Pd) : List UInt8 := headK p 6 ++ p.cdb
def tailB (d : List UInt8) : List UInt8 := if d = [] then [] else padM d ++ four (crcS (padM d))
def encP (p : Pd) : List UInt8 := head48 p ++ four (crcS (head48 p)) ++ tailB p.data
def okPd (p : Pd) : Prop := (p.cdb.length = 16 ∧ knownOp p.op = true ∧ p.flags < 128 ∧ p.st < 256) ∧ p.data.length ≤ 4096 ∧ ∀ v ∈ nums p, v < 4294967296
def dataN (b : List UInt8) : Nat := beV ((b.drop 4).take 4)
def numAt (b : List UInt8) (i : Nat) : Nat := beV ((b.drop (8 + 4 * i)).take 4)
def getP (b : List UInt8) : Pd := ⟨(b.getD 0 0).toNat, decide (128 ≤ (b.getD 1 0).toNat), (b.getD 1 0).toNat % 128, (b.getD 2 0).toNat, numAt b 0, numAt b 1, numAt b 2, numAt b 3, numAt b 4, numAt b 5, (b.drop 32).take 16, []⟩
def frontE (b : List UInt8) : Nat :=
 if b.length < 52 then 3 else
 if four (crcS (b.take 48)) ≠ (b.drop 48).take 4 then 4 else
 if knownOp (b.getD 0 0).toNat = false ∨ (b.getD 3 0).toNat ≠ 0 then 2 else
 if 4096 < dataN b then 5 else 0
def wholeN (n : Nat) : Nat := (n + 3) / 4 * 4
def decE (b : List UInt8) : Nat :=
 if frontE b ≠ 0 then frontE b else
 if dataN b = 0 then 0 else
 if (b.drop 52).length < wholeN (dataN b) + 4 then 3 else
 if four (crcS ((b.drop 52).take (wholeN (dataN b)))) ≠ ((b.drop 52).drop (wholeN (dataN b))).take 4 then 4 else
 if (((b.drop 52).drop (dataN b)).take (wholeN (dataN b) - dataN b)).all (fun c => c == 0) = false then 2 else 0
def decP (b : List UInt8) : Pd := { getP b with data := (b.drop 52).take (dataN b) }
def decN (b : List UInt8) : Nat := if dataN b = 0 then 52 else 52 + wholeN (dataN b) + 4
structure Rdr where
 b : List UInt8
 err : Nat
def Rdr.put (r : Rdr) (x : List UInt8) : Rdr := if r.err = 0 then { r with b := r.b ++ x } else r
def Rdr.next (r : Rdr) : (Pd × Bool) × Rdr :=
 if r.err ≠ 0 then ((zPd, false), r) else
 if decE r.b = 0 then ((decP r.b, true), ⟨r.b.drop (decN r.b), 0⟩) else
 if decE r.b = 3 then ((zPd, false), r) else ((zPd, false), ⟨[], decE r.b⟩)
@[irreducible] def gapM (a b : Nat) : Int := let d := (b + 4294967296 - a) % 4294967296; if d < 2147483648 then (d : Int) else (d : Int) - 4294967296
structure Cn where
 own : Nat
 first : Bool
 peer : Nat
 known : Bool
 met : Bool
 reset : Bool
 out : List UInt8
 base : Nat
 sent : Nat
 inb : List UInt8
 got : Nat
 say : Bool
def newC (own : Nat) (first : Bool) : Cn := ⟨own, first, 0, false, false, false, [], 0, 0, [], 0, first⟩
def Cn.sendN (c : Cn) (b : List UInt8) : Nat := if c.reset then 0 else min b.length (4096 - c.out.length)
def Cn.send (c : Cn) (b : List UInt8) : Cn := if c.reset then c else { c with out := c.out ++ b.take (c.sendN b) }
def Cn.recv (c : Cn) : Cn := { c with inb := [] }
def Cn.kind (c : Cn) : UInt8 := if c.met then 2 else if c.known then 1 else 0
def Cn.four (c : Cn) (fr : Nat) : List Nat := [c.own, c.peer, c.got, (c.base + fr) % 4294967296]
def Cn.packK (c : Cn) (fr k : Nat) : List UInt8 := [c.kind] ++ ((c.four fr).take k).flatMap fun v => be v 4
def Cn.packet (c : Cn) (fr : Nat) (b : List UInt8) : List UInt8 := sealB (c.packK fr 4 ++ b)
def Cn.chunks (c : Cn) : Nat → Nat → List (List UInt8)
 | 0, _ => []
 | f + 1, s => if min (c.out.length - s) 1024 = 0 then [] else c.packet s ((c.out.drop s).take (min (c.out.length - s) 1024)) :: c.chunks f (s + min (c.out.length - s) 1024)
def Cn.outL (c : Cn) : List (List UInt8) := if c.reset then [] else
 let l := if c.known then c.chunks 5 c.sent else []
 if c.say && l.isEmpty then [c.packet (if c.known then c.out.length else c.sent) []] else l
def Cn.outC (c : Cn) : Cn := if c.reset then c else { c with sent := if c.known then c.out.length else c.sent, say := false }
def Cn.tick (c : Cn) : Cn := { c with sent := 0, say := c.say || (c.first && !c.known) || (c.known && !c.met) || decide (0 < c.out.length) }
def Cn.ackd (c : Cn) (ack : Nat) : Cn := if 0 < gapM c.base ack ∧ gapM c.base ack ≤ c.out.length then { c with out := c.out.drop (gapM c.base ack).toNat, base := ack, sent := c.sent - (gapM c.base ack).toNat } else c
def Cn.takes (c : Cn) (at_ : Nat) (b : List UInt8) : Cn :=
 if b = [] then c else
 if gapM at_ c.got < 0 ∨ (b.length : Int) ≤ gapM at_ c.got then { c with say := true } else
 let x := (b.drop (gapM at_ c.got).toNat).take (4096 - c.inb.length)
 { c with say := true, inb := c.inb ++ x, got := (c.got + x.length) % 4294967296 }
def Cn.take (c : Cn) (ack at_ : Nat) (b : List UInt8) : Cn := (c.ackd ack).takes at_ b
def valN (b : List UInt8) (i : Nat) : Nat := beV ((b.drop (1 + 4 * i)).take 4)
def Cn.inB (c : Cn) (b : List UInt8) : Cn :=
 if c.known && decide (valN b 0 ≠ c.peer) then { c with reset := true } else
 if (b.getD 0 0).toNat = 0 ∨ valN b 1 ≠ c.own then { c with peer := valN b 0, known := true, say := true } else
 Cn.take { c with say := c.say || !c.met || decide ((b.getD 0 0).toNat = 1), peer := valN b 0, known := true, met := true } (valN b 2) (valN b 3) (b.drop 17)
def Cn.inP (c : Cn) (p : List UInt8) : Cn :=
 if (openB p).2 ≠ 0 ∨ (openB p).1.length < 17 ∨ 2 < ((openB p).1.getD 0 0).toNat ∨ c.reset = true then c else c.inB (openB p).1
def swB (l : List UInt8) (i j : Nat) : List UInt8 := (l.set i (l.getD j 0)).set j (l.getD i 0)
def rev4 (l : List UInt8) : Nat → List UInt8
 | 0 => l
 | k + 1 => swB (rev4 l k) k (3 - k)
theorem swB_len (l : List UInt8) (i j : Nat) : (swB l i j).length = l.length := by simp [swB]
theorem rev4_len (l : List UInt8) : ∀ k, (rev4 l k).length = l.length
 | 0 => rfl
 | k + 1 => by rw [rev4, swB_len, rev4_len l k]
theorem swB_val (l : List UInt8) (i j : Nat) : ((bytesV l).set (i * 1) (.int .u8 ((l.getD j 0).toNat : Int))).set (j * 1) (.int .u8 ((l.getD i 0).toNat : Int)) = bytesV (swB l i j) := by
 unfold swB bytesV
 rw [Nat.mul_one, Nat.mul_one, List.map_set, List.map_set]
theorem getD_row {l : List UInt8} {i : Nat} (h : i < l.length) : ((bytesV l).drop (i * 1)).take 1 = [.int .u8 ((l.getD i 0).toNat : Int)] := by
 have e : l[i]? = some (l.getD i 0) := by rw [List.getD_eq_getElem?_getD, List.getElem?_eq_getElem h]; rfl
 exact bytes_row e
theorem four_rev {s : Nat} (h : s < 4294967296) : rev4 (be s 4) 2 = ByM.four s := by
 have e : be s 4 = [UInt8.ofNat (s / 2 ^ 24), UInt8.ofNat (s / 2 ^ 16), UInt8.ofNat (s / 2 ^ 8), UInt8.ofNat (s / 2 ^ 0)] := rfl
 rw [e]
 show [UInt8.ofNat (s / 2 ^ 0), UInt8.ofNat (s / 2 ^ 8), UInt8.ofNat (s / 2 ^ 16), UInt8.ofNat (s / 2 ^ 24)] = _
 rw [Nat.pow_zero, Nat.div_one]; rfl
def catK (rows : List BX) (k : Nat) : List UInt8 := (rows.take k).flatMap BX.b
theorem catK_succ {rows : List BX} {k : Nat} {x : BX} (h : rows[k]? = some x) : catK rows (k + 1) = catK rows k ++ x.2.2 := by
 unfold catK
 rw [take_snoc h, List.flatMap_append]; simp [BX.b]
theorem catK_le (rows : List BX) (k : Nat) : (catK rows k).length ≤ (rows.flatMap BX.b).length := by
 unfold catK
 have e : rows = rows.take k ++ rows.drop k := (List.take_append_drop ..).symm
 have h : (rows.flatMap BX.b) = (rows.take k).flatMap BX.b ++ (rows.drop k).flatMap BX.b := by rw [← List.flatMap_append, ← e]
 rw [h, List.length_append]; omega
theorem padM_len (d : List UInt8) : (padM d).length = d.length + (4 - d.length % 4) % 4 := by unfold padM; rw [List.length_append, List.length_replicate]
theorem head8_len (p : Pd) : (head8 p).length = 8 := by unfold head8; rw [List.length_append, be_length]; rfl
theorem headK_len (p : Pd) : ∀ k, k ≤ 6 → (headK p k).length = 8 + 4 * k := by
 intro k hk
 have hn : (nums p).length = 6 := rfl
 have : ∀ (l : List Nat), (l.flatMap fun v => be v 4).length = 4 * l.length := by
   intro l
   induction l with
   | nil => rfl
   | cons x l ih => rw [List.flatMap_cons, List.length_append, be_length, ih, List.length_cons]; omega
 unfold headK
 rw [List.length_append, head8_len, this, List.length_take, hn]; omega
theorem headK_succ {p : Pd} {k v : Nat} (h : (nums p)[k]? = some v) : headK p (k + 1) = headK p k ++ be v 4 := by
 unfold headK
 rw [List.take_add_one, h, List.flatMap_append, List.append_assoc]; simp
theorem head48_len {p : Pd} (h : p.cdb.length = 16) : (head48 p).length = 48 := by unfold head48; rw [List.length_append, headK_len p 6 (by decide), h]
theorem nums_row {p : Pd} {k v : Nat} (h : (nums p)[k]? = some v) : (((nums p).map (fun v : Nat => Value.int .u32 (v : Int))).drop (k * 1)).take 1 = [.int .u32 (v : Int)] := by
 have h1 : ((nums p).map (fun v : Nat => Value.int .u32 (v : Int)))[k]? = some (.int .u32 (v : Int)) := by rw [List.getElem?_map, h]; rfl
 have hl := (List.getElem?_eq_some_iff.1 h1).1
 have he := (List.getElem?_eq_some_iff.1 h1).2
 rw [Nat.mul_one, List.drop_eq_getElem_cons hl, he]; rfl
theorem nums_some (p : Pd) {k : Nat} (h : k < 6) : ∃ v, (nums p)[k]? = some v := ⟨(nums p)[k]'(by exact h), List.getElem?_eq_getElem _⟩
def Pd.cells (p : Pd) (dv : Value) : List Value := [.int .i64 (p.op : Int), .bool p.fin, .int .i64 (p.flags : Int), .int .i64 (p.st : Int), .int .u32 (p.tag : Int), .int .u32 (p.sn : Int), .int .u32 (p.exp : Int), .int .u32 (p.max : Int), .int .u32 (p.off : Int), .int .u32 (p.len : Int)] ++ bytesV p.cdb ++ [dv]
theorem cells0 (p : Pd) (dv : Value) : (p.cells dv)[0 + 0]? = some (.int .i64 (p.op : Int)) := rfl
theorem cells1 (p : Pd) (dv : Value) : (p.cells dv)[0 + 1]? = some (.bool p.fin) := rfl
theorem cells2 (p : Pd) (dv : Value) : (p.cells dv)[0 + 2]? = some (.int .i64 (p.flags : Int)) := rfl
theorem cells3 (p : Pd) (dv : Value) : (p.cells dv)[0 + 3]? = some (.int .i64 (p.st : Int)) := rfl
theorem cells4 (p : Pd) (dv : Value) : (p.cells dv)[0 + 4]? = some (.int .u32 (p.tag : Int)) := rfl
theorem cells5 (p : Pd) (dv : Value) : (p.cells dv)[0 + 5]? = some (.int .u32 (p.sn : Int)) := rfl
theorem cells6 (p : Pd) (dv : Value) : (p.cells dv)[0 + 6]? = some (.int .u32 (p.exp : Int)) := rfl
theorem cells7 (p : Pd) (dv : Value) : (p.cells dv)[0 + 7]? = some (.int .u32 (p.max : Int)) := rfl
theorem cells8 (p : Pd) (dv : Value) : (p.cells dv)[0 + 8]? = some (.int .u32 (p.off : Int)) := rfl
theorem cells9 (p : Pd) (dv : Value) : (p.cells dv)[0 + 9]? = some (.int .u32 (p.len : Int)) := rfl
theorem cells_len {p : Pd} {dv : Value} (h : p.cdb.length = 16) : (p.cells dv).length = 27 := by unfold Pd.cells; rw [List.length_append, List.length_append, bytesV, List.length_map, h]; rfl
theorem cells_data {p : Pd} {dv : Value} (h : p.cdb.length = 16) : (p.cells dv)[0 + 26]? = some dv := by
 unfold Pd.cells
 have e : (bytesV p.cdb).length = 16 := by rw [bytesV, List.length_map, h]
 rw [List.getElem?_append_right (by rw [List.length_append, e]; exact Nat.le_refl 26), List.length_append, e]; rfl
theorem cells_cdb {p : Pd} {dv : Value} (h : p.cdb.length = 16) : ((p.cells dv).drop (0 + 10)).take 16 = bytesV p.cdb := by
 unfold Pd.cells
 have e : (bytesV p.cdb).length = 16 := by rw [bytesV, List.length_map, h]
 rw [List.append_assoc]
 show (bytesV p.cdb ++ [dv]).take 16 = _
 rw [List.take_append_of_le_length (by omega), List.take_of_length_le (by omega)]
def hs52 (p : Pd) : List UInt8 := head48 p ++ ByM.four (crcS (head48 p))
theorem hs52_len {p : Pd} (h : p.cdb.length = 16) : (hs52 p).length = 52 := by unfold hs52; rw [List.length_append, head48_len h]; rfl
theorem encP_nil {p : Pd} (h : p.data.length = 0) : encP p = hs52 p := by
 have e : p.data = [] := List.eq_nil_of_length_eq_zero h
 unfold encP hs52 tailB
 rw [if_pos e, List.append_nil]
theorem encP_cons {p : Pd} (h : ¬ p.data.length = 0) : encP p = hs52 p ++ (padM p.data ++ ByM.four (crcS (padM p.data))) := by
 have e : ¬ p.data = [] := fun e => h (by rw [e]; rfl)
 unfold encP hs52 tailB
 rw [if_neg e]
theorem cat3 {L : List HProp} {x1 x2 x3 : BX} (h1 : Gives L (Bytes x1.v x1.b)) (h2 : Gives L (Bytes x2.v x2.b)) (h3 : Gives L (Bytes x3.v x3.b)) : ∀ x ∈ [x1, x2, x3], Gives L (Bytes x.v x.b) := by
 intro x hx
 rcases List.mem_cons.1 hx with e | hx
 · rw [e]; exact h1
 rcases List.mem_cons.1 hx with e | hx
 · rw [e]; exact h2
 rw [List.mem_singleton.1 hx]; exact h3
def gpK (bs : List UInt8) (k : Nat) : Pd := ⟨(bs.getD 0 0).toNat, decide (128 ≤ (bs.getD 1 0).toNat), (bs.getD 1 0).toNat % 128, (bs.getD 2 0).toNat, if 0 < k then numAt bs 0 else 0, if 1 < k then numAt bs 1 else 0, if 2 < k then numAt bs 2 else 0, if 3 < k then numAt bs 3 else 0, if 4 < k then numAt bs 4 else 0, if 5 < k then numAt bs 5 else 0, (bs.drop 32).take 16, []⟩
theorem gpK_six (bs : List UInt8) : gpK bs 6 = getP bs := rfl
theorem gpK_set (bs : List UInt8) (dv : Value) : ∀ k, k < 6 → ((gpK bs k).cells dv).set (0 + (4 + k)) (.int .u32 (numAt bs k : Int)) = (gpK bs (k + 1)).cells dv := by
 intro k hk
 match k, hk with
 | 0, _ => rfl
 | 1, _ => rfl
 | 2, _ => rfl
 | 3, _ => rfl
 | 4, _ => rfl
 | 5, _ => rfl
def ptrs (b : Nat) : List Value := [.pointer (some ⟨b, 0 + 4, none⟩), .pointer (some ⟨b, 0 + 5, none⟩), .pointer (some ⟨b, 0 + 6, none⟩), .pointer (some ⟨b, 0 + 7, none⟩), .pointer (some ⟨b, 0 + 8, none⟩), .pointer (some ⟨b, 0 + 9, none⟩)]
theorem ptrs_row (b : Nat) : ∀ k, k < 6 → ((ptrs b).drop (k * 1)).take 1 = [.pointer (some ⟨b, 0 + (4 + k), none⟩)] := by
 intro k hk
 match k, hk with
 | 0, _ => rfl
 | 1, _ => rfl
 | 2, _ => rfl
 | 3, _ => rfl
 | 4, _ => rfl
 | 5, _ => rfl
theorem numAt_lt (bs : List UInt8) (i : Nat) : numAt bs i < 4294967296 := by
 have h1 := beV_lt ((bs.drop (8 + 4 * i)).take 4)
 have h2 : 256 ^ ((bs.drop (8 + 4 * i)).take 4).length ≤ 256 ^ 4 := Nat.pow_le_pow_right (by decide) (by rw [List.length_take]; omega)
 have h3 : (256 : Nat) ^ 4 = 4294967296 := by decide
 unfold numAt; omega
theorem dataN_lt (bs : List UInt8) : dataN bs < 4294967296 := by
 have h1 := beV_lt ((bs.drop 4).take 4)
 have h2 : 256 ^ ((bs.drop 4).take 4).length ≤ 256 ^ 4 := Nat.pow_le_pow_right (by decide) (by rw [List.length_take]; omega)
 have h3 : (256 : Nat) ^ 4 = 4294967296 := by decide
 unfold dataN; omega
theorem gpK_cdb (bs : List UInt8) (k : Nat) (h : 52 ≤ bs.length) : (gpK bs k).cdb.length = 16 := by show ((bs.drop 32).take 16).length = 16; rw [List.length_take, List.length_drop]; omega
theorem cells_all {p : Pd} {dv : Value} (h : p.cdb.length = 16) : ((p.cells dv).drop 0).take 27 = p.cells dv := List.take_of_length_le (by have := cells_len (dv := dv) h; show (p.cells dv).length ≤ 27; omega)
theorem cells_one {p : Pd} {dv : Value} (h : dv.oneCell' = true) : (p.cells dv).all (·.oneCell') = true := by
 unfold Pd.cells
 rw [List.all_append, List.all_append, Bool.and_eq_true, Bool.and_eq_true]
 refine ⟨⟨rfl, ?_⟩, by simp [h]⟩
 rw [List.all_eq_true]
 exact fun u hu => bytes_one u hu
theorem front3 {bs : List UInt8} (h : bs.length < 52) : frontE bs = 3 := by unfold frontE; rw [if_pos h]
theorem front4 {bs : List UInt8} (h : ¬ bs.length < 52) (h2 : four (crcS (bs.take 48)) ≠ (bs.drop 48).take 4) : frontE bs = 4 := by unfold frontE; rw [if_neg h, if_pos h2]
theorem front2 {bs : List UInt8} (h : ¬ bs.length < 52) (h2 : four (crcS (bs.take 48)) = (bs.drop 48).take 4) (h3 : knownOp (bs.getD 0 0).toNat = false ∨ (bs.getD 3 0).toNat ≠ 0) : frontE bs = 2 := by unfold frontE; rw [if_neg h, if_neg (fun e => e h2), if_pos h3]
theorem front5 {bs : List UInt8} (h : ¬ bs.length < 52) (h2 : four (crcS (bs.take 48)) = (bs.drop 48).take 4) (h3 : ¬ (knownOp (bs.getD 0 0).toNat = false ∨ (bs.getD 3 0).toNat ≠ 0)) (h4 : 4096 < dataN bs) : frontE bs = 5 := by unfold frontE; rw [if_neg h, if_neg (fun e => e h2), if_neg h3, if_pos h4]
theorem front0 {bs : List UInt8} (h : ¬ bs.length < 52) (h2 : four (crcS (bs.take 48)) = (bs.drop 48).take 4) (h3 : ¬ (knownOp (bs.getD 0 0).toNat = false ∨ (bs.getD 3 0).toNat ≠ 0)) (h4 : ¬ 4096 < dataN bs) : frontE bs = 0 := by unfold frontE; rw [if_neg h, if_neg (fun e => e h2), if_neg h3, if_neg h4]
theorem dec_front {bs : List UInt8} (h : frontE bs ≠ 0) : decE bs = frontE bs := by unfold decE; rw [if_pos h]
theorem dec_none {bs : List UInt8} (h : frontE bs = 0) (h0 : dataN bs = 0) : decE bs = 0 := by unfold decE; rw [if_neg (fun e => e h), if_pos h0]
theorem dec3 {bs D : List UInt8} (hD : D = bs.drop 52) (h : frontE bs = 0) (h0 : ¬ dataN bs = 0) (h1 : D.length < wholeN (dataN bs) + 4) : decE bs = 3 := by unfold decE; rw [if_neg (fun e => e h), if_neg h0, ← hD, if_pos h1]
theorem dec4 {bs D : List UInt8} (hD : D = bs.drop 52) (h : frontE bs = 0) (h0 : ¬ dataN bs = 0) (h1 : ¬ D.length < wholeN (dataN bs) + 4) (h2 : four (crcS (D.take (wholeN (dataN bs)))) ≠ (D.drop (wholeN (dataN bs))).take 4) : decE bs = 4 := by unfold decE; rw [if_neg (fun e => e h), if_neg h0, ← hD, if_neg h1, if_pos h2]
theorem dec2 {bs D : List UInt8} (hD : D = bs.drop 52) (h : frontE bs = 0) (h0 : ¬ dataN bs = 0) (h1 : ¬ D.length < wholeN (dataN bs) + 4) (h2 : four (crcS (D.take (wholeN (dataN bs)))) = (D.drop (wholeN (dataN bs))).take 4) (h3 : ((D.drop (dataN bs)).take (wholeN (dataN bs) - dataN bs)).all (fun c => c == 0) = false) : decE bs = 2 := by unfold decE; rw [if_neg (fun e => e h), if_neg h0, ← hD, if_neg h1, if_neg (fun e => e h2), if_pos h3]
theorem dec0 {bs D : List UInt8} (hD : D = bs.drop 52) (h : frontE bs = 0) (h0 : ¬ dataN bs = 0) (h1 : ¬ D.length < wholeN (dataN bs) + 4) (h2 : four (crcS (D.take (wholeN (dataN bs)))) = (D.drop (wholeN (dataN bs))).take 4) (h3 : ((D.drop (dataN bs)).take (wholeN (dataN bs) - dataN bs)).all (fun c => c == 0) = true) : decE bs = 0 := by unfold decE; rw [if_neg (fun e => e h), if_neg h0, ← hD, if_neg h1, if_neg (fun e => e h2), if_neg (by rw [h3]; decide)]
theorem decN_none {bs : List UInt8} (h0 : dataN bs = 0) : decN bs = 52 := by unfold decN; rw [if_pos h0]
theorem decN_some {bs : List UInt8} (h0 : ¬ dataN bs = 0) : decN bs = 52 + wholeN (dataN bs) + 4 := by unfold decN; rw [if_neg h0]
theorem decP_none {bs : List UInt8} (h0 : dataN bs = 0) : (decP bs).data = [] := by show (bs.drop 52).take (dataN bs) = []; rw [h0]; rfl
theorem cells_set {p : Pd} {dv dv2 : Value} (h : p.cdb.length = 16) : (p.cells dv).set (0 + 26) dv2 = p.cells dv2 := by
 unfold Pd.cells
 have e : (bytesV p.cdb).length = 16 := by rw [bytesV, List.length_map, h]
 rw [List.set_append_right _ _ (by rw [List.length_append, e]; exact Nat.le_refl 26), List.length_append, e]; rfl
theorem getP_cdb (bs : List UInt8) (h : 52 ≤ bs.length) : (getP bs).cdb.length = 16 := gpK_cdb bs 6 h
theorem front_le {bs : List UInt8} (h : frontE bs = 0) : dataN bs ≤ 4096 := by
 unfold frontE at h
 split at h
 · cases h
 split at h
 · cases h
 split at h
 · cases h
 split at h
 · cases h
 omega
theorem all_stop {l : List UInt8} {k : Nat} {c : UInt8} (h : l[k]? = some c) (hc : c ≠ 0) : l.all (fun c => c == 0) = false := by
 rw [List.all_eq_false]
 exact ⟨c, List.mem_of_getElem? h, by simpa using hc⟩
theorem all_snoc {l : List UInt8} {k : Nat} {c : UInt8} (h : l[k]? = some c) (hc : c = 0) (ha : (l.take k).all (fun c => c == 0) = true) : (l.take (k + 1)).all (fun c => c == 0) = true := by
 rw [List.take_add_one, h, List.all_append, ha, hc]; rfl
def RdrP (T b : Nat) (r : Rdr) : HProp := Ex fun (x : Option Addr × Nat) => Pack True [blk b [.slice x.1 r.b.length x.2, .int .i64 (r.err : Int)] T, OwnB (.slice x.1 r.b.length x.2) r.b]
theorem openRd {W0 w : World} {L : List HProp} {T b : Nat} {r : Rdr} (H : On W0 (RdrP T b r :: L) w) : ∃ a c, On W0 (blk b [.slice a r.b.length c, .int .i64 (r.err : Int)] T :: OwnB (.slice a r.b.length c) r.b :: L) w := by
 obtain ⟨⟨a, c⟩, H⟩ := H.ex
 exact ⟨a, c, H.unpack.2⟩
theorem closeRd {W0 w : World} {L : List HProp} {T b c : Nat} {a : Option Addr} {r : Rdr} (H : On W0 (blk b [.slice a r.b.length c, .int .i64 (r.err : Int)] T :: OwnB (.slice a r.b.length c) r.b :: L) w) : On W0 (RdrP T b r :: L) w :=
 On.exI (a, c) (On.pack trivial H)
theorem next_err {r : Rdr} (h : r.err ≠ 0) : r.next = ((zPd, false), r) := by unfold Rdr.next; rw [if_pos h]
theorem next_ok {r : Rdr} (h : r.err = 0) (h2 : decE r.b = 0) : r.next = ((decP r.b, true), ⟨r.b.drop (decN r.b), 0⟩) := by unfold Rdr.next; rw [if_neg (fun e => e h), if_pos h2]
theorem next_short {r : Rdr} (h : r.err = 0) (h2 : decE r.b = 3) : r.next = ((zPd, false), r) := by unfold Rdr.next; rw [if_neg (fun e => e h), if_neg (by omega), if_pos h2]
theorem next_bad {r : Rdr} (h : r.err = 0) (h2 : decE r.b ≠ 0) (h3 : decE r.b ≠ 3) : r.next = ((zPd, false), ⟨[], decE r.b⟩) := by unfold Rdr.next; rw [if_neg (fun e => e h), if_neg h2, if_neg h3]
theorem put_ok {r : Rdr} {x : List UInt8} (h : r.err = 0) : r.put x = ⟨r.b ++ x, r.err⟩ := by unfold Rdr.put; rw [if_pos h]
theorem put_no {r : Rdr} {x : List UInt8} (h : r.err ≠ 0) : r.put x = r := by unfold Rdr.put; rw [if_neg h]
abbrev pkCells (c : Cn) (ao : Option Addr) (co : Nat) (ai : Option Addr) (ci s : Nat) (sy : Bool) : List Value := [.int .u32 (c.own : Int), .bool c.first, .int .u32 (c.peer : Int), .bool c.known, .bool c.met, .bool c.reset, .slice ao c.out.length co, .int .u32 (c.base : Int), .int .i64 (s : Int), .slice ai c.inb.length ci, .int .u32 (c.got : Int), .bool sy]
abbrev cnCells (c : Cn) (ao : Option Addr) (co : Nat) (ai : Option Addr) (ci : Nat) : List Value := pkCells c ao co ai ci c.sent c.say
def numsOk (c : Cn) : Prop := c.own < 4294967296 ∧ c.peer < 4294967296 ∧ c.base < 4294967296 ∧ c.got < 4294967296
def wfC (c : Cn) : Prop := numsOk c ∧ c.out.length ≤ 4096 ∧ c.inb.length ≤ 4096 ∧ c.sent ≤ c.out.length
def ConnP (T b : Nat) (c : Cn) : HProp := Ex fun (x : Option Addr × Nat × Option Addr × Nat) => Pack (wfC c) [blk b (cnCells c x.1 x.2.1 x.2.2.1 x.2.2.2) T, OwnB (.slice x.1 c.out.length x.2.1) c.out, OwnB (.slice x.2.2.1 c.inb.length x.2.2.2) c.inb]
theorem openCn {W0 w : World} {L : List HProp} {T b : Nat} {c : Cn} (H : On W0 (ConnP T b c :: L) w) : ∃ ao co ai ci, wfC c ∧ On W0 (blk b (cnCells c ao co ai ci) T :: OwnB (.slice ao c.out.length co) c.out :: OwnB (.slice ai c.inb.length ci) c.inb :: L) w := by
 obtain ⟨⟨ao, co, ai, ci⟩, H⟩ := H.ex
 obtain ⟨hw, H⟩ := H.unpack
 exact ⟨ao, co, ai, ci, hw, H⟩
theorem closeCn {W0 w : World} {L : List HProp} {T b co ci : Nat} {ao ai : Option Addr} {c : Cn} (hw : wfC c) (H : On W0 (blk b (cnCells c ao co ai ci) T :: OwnB (.slice ao c.out.length co) c.out :: OwnB (.slice ai c.inb.length ci) c.inb :: L) w) : On W0 (ConnP T b c :: L) w :=
 On.exI (ao, co, ai, ci) (On.pack hw H)
theorem wf_new {own : Nat} {first : Bool} (h : own < 4294967296) : wfC (newC own first) := ⟨⟨h, (show (0 : Nat) < 4294967296 by decide), (show (0 : Nat) < 4294967296 by decide), (show (0 : Nat) < 4294967296 by decide)⟩, Nat.zero_le _, Nat.zero_le _, Nat.zero_le _⟩
theorem wrap32 {n : Int} (h0 : 0 ≤ n) (h1 : n < 4294967296) : IntKind.wrap .i32 n = if n < 2147483648 then n else n - 4294967296 := by
 have e : n % 4294967296 = n := Int.emod_eq_of_lt h0 h1
 show (if (true && decide (n % (2 ^ 32 : Int) ≥ (2 ^ (32 - 1) : Int))) = true then n % (2 ^ 32 : Int) - (2 ^ 32 : Int) else n % (2 ^ 32 : Int)) = _
 have e2 : (2 : Int) ^ 32 = 4294967296 := by decide
 have e3 : (2 : Int) ^ (32 - 1) = 2147483648 := by decide
 rw [e2, e3, e]
 by_cases h : n < 2147483648
 · rw [if_pos h, if_neg (by simp; omega)]
 rw [if_neg h, if_pos (by simp; omega)]
theorem gapM_val {a b : Nat} (ha : a < 4294967296) (hb : b < 4294967296) : IntKind.wrap .i32 (IntKind.wrap .u32 ((b : Int) - (a : Int))) = gapM a b := by
 have e1 : IntKind.wrap .u32 ((b : Int) - (a : Int)) = (((b + 4294967296 - a) % 4294967296 : Nat) : Int) := by
   show ((b : Int) - (a : Int)) % (2 ^ 32 : Int) = _
   have e2 : (2 : Int) ^ 32 = 4294967296 := by decide
   rw [e2]; omega
 rw [e1, wrap32 (by omega) (by omega)]
 unfold gapM
 simp only []
 by_cases h : (b + 4294967296 - a) % 4294967296 < 2147483648
 · rw [if_pos h, if_pos (by omega)]
 rw [if_neg h, if_neg (by omega)]
theorem gapM_bound (a b : Nat) : -2147483648 ≤ gapM a b ∧ gapM a b < 2147483648 := by
 unfold gapM
 simp only []
 split <;> omega
def GapIs (a b : Nat) (g : Int) : Prop := g = gapM a b
theorem ackd_yes {c : Cn} {ack N : Nat} {g : Int} (hg : GapIs c.base ack g) (h0 : 0 < g) (h1 : g ≤ c.out.length) (hN : g = (N : Int)) : c.ackd ack = { c with out := c.out.drop N, base := ack, sent := c.sent - N } := by
 have hg : g = gapM c.base ack := hg
 unfold Cn.ackd
 rw [← hg, if_pos ⟨h0, h1⟩, hN]; rfl
theorem ackd_no {c : Cn} {ack : Nat} {g : Int} (hg : GapIs c.base ack g) (h : ¬ (0 < g ∧ g ≤ c.out.length)) : c.ackd ack = c := by
 have hg : g = gapM c.base ack := hg
 unfold Cn.ackd
 rw [← hg, if_neg h]
theorem takes_nil {c : Cn} {at_ : Nat} {bs : List UInt8} (h : bs.length = 0) : c.takes at_ bs = c := by
 unfold Cn.takes
 rw [if_pos (List.eq_nil_of_length_eq_zero h)]
theorem takes_no {c : Cn} {at_ : Nat} {bs : List UInt8} {g : Int} (hg : GapIs at_ c.got g) (hne : ¬ bs.length = 0) (h : g < 0 ∨ (bs.length : Int) ≤ g) : c.takes at_ bs = { c with say := true } := by
 have hg : g = gapM at_ c.got := hg
 unfold Cn.takes
 rw [if_neg (fun e => hne (by rw [e]; rfl)), ← hg, if_pos h]
theorem takes_yes {c : Cn} {at_ G : Nat} {bs Y : List UInt8} {g : Int} (hg : GapIs at_ c.got g) (hne : ¬ bs.length = 0) (h : ¬ (g < 0 ∨ (bs.length : Int) ≤ g)) (hG : g = (G : Int)) (eY : (bs.drop G).take (4096 - c.inb.length) = Y) : c.takes at_ bs = { c with say := true, inb := c.inb ++ Y, got := (c.got + Y.length) % 4294967296 } := by
 have hg : g = gapM at_ c.got := hg
 unfold Cn.takes
 rw [if_neg (fun e => hne (by rw [e]; rfl)), ← hg, if_neg h, hG]
 show { c with say := true, inb := c.inb ++ (bs.drop G).take (4096 - c.inb.length), got := (c.got + ((bs.drop G).take (4096 - c.inb.length)).length) % 4294967296 } = _
 rw [eY]
theorem inP_no {c : Cn} {p : List UInt8} (h : (openB p).2 ≠ 0 ∨ (openB p).1.length < 17 ∨ 2 < ((openB p).1.getD 0 0).toNat ∨ c.reset = true) : c.inP p = c := by unfold Cn.inP; rw [if_pos h]
theorem inP_yes {c : Cn} {p : List UInt8} (h : ¬ ((openB p).2 ≠ 0 ∨ (openB p).1.length < 17 ∨ 2 < ((openB p).1.getD 0 0).toNat ∨ c.reset = true)) : c.inP p = c.inB (openB p).1 := by unfold Cn.inP; rw [if_neg h]
theorem openB_fst {bs : List UInt8} (h : (openB bs).2 = 0) : (openB bs).1 = bs.take (bs.length - 4) := by
 unfold openB at h ⊢
 split at h
 · cases h
 rename_i h1
 split at h
 · cases h
 rename_i h2
 rw [if_neg h1, if_neg h2]
theorem inB_reset {c : Cn} {B : List UInt8} (hk : c.known = true) (hn : ¬ valN B 0 = c.peer) : c.inB B = { c with reset := true } := by
 unfold Cn.inB
 rw [if_pos (by rw [hk, decide_eq_true hn]; rfl)]
theorem inB_new {c : Cn} {B : List UInt8} (h1 : c.known = false ∨ valN B 0 = c.peer) (h2 : (B.getD 0 0).toNat = 0 ∨ valN B 1 ≠ c.own) : c.inB B = { c with peer := valN B 0, known := true, say := true } := by
 unfold Cn.inB
 have e : ¬ ((c.known && decide (valN B 0 ≠ c.peer)) = true) := by
   rcases h1 with h1 | h1
   · rw [h1, Bool.false_and]; decide
   rw [decide_eq_false (fun e => e h1), Bool.and_false]; decide
 rw [if_neg e, if_pos h2]
theorem inB_take {c : Cn} {B : List UInt8} (h1 : c.known = false ∨ valN B 0 = c.peer) (h2 : ¬ ((B.getD 0 0).toNat = 0 ∨ valN B 1 ≠ c.own)) : c.inB B = Cn.take { c with say := c.say || !c.met || decide ((B.getD 0 0).toNat = 1), peer := valN B 0, known := true, met := true } (valN B 2) (valN B 3) (B.drop 17) := by
 unfold Cn.inB
 have e : ¬ ((c.known && decide (valN B 0 ≠ c.peer)) = true) := by
   rcases h1 with h1 | h1
   · rw [h1, Bool.false_and]; decide
   rw [decide_eq_false (fun e => e h1), Bool.and_false]; decide
 rw [if_neg e, if_neg h2]
def valsK (B : List UInt8) (k : Nat) : List Value := [.int .u32 ((if 0 < k then valN B 0 else 0 : Nat) : Int), .int .u32 ((if 1 < k then valN B 1 else 0 : Nat) : Int), .int .u32 ((if 2 < k then valN B 2 else 0 : Nat) : Int), .int .u32 ((if 3 < k then valN B 3 else 0 : Nat) : Int)]
theorem valsK_set (B : List UInt8) : ∀ k, k < 4 → (valsK B k).set (0 + ((k : Nat) : Int).toNat * 1) (.int .u32 (valN B k : Int)) = valsK B (k + 1) := by
 intro k hk
 match k, hk with
 | 0, _ => rfl
 | 1, _ => rfl
 | 2, _ => rfl
 | 3, _ => rfl
theorem valN_lt (B : List UInt8) (i : Nat) : valN B i < 4294967296 := by
 have h1 := beV_lt ((B.drop (1 + 4 * i)).take 4)
 have h2 : 256 ^ ((B.drop (1 + 4 * i)).take 4).length ≤ 256 ^ 4 := Nat.pow_le_pow_right (by decide) (by rw [List.length_take]; omega)
 have h3 : (256 : Nat) ^ 4 = 4294967296 := by decide
 unfold valN; omega
theorem packK_len (c : Cn) (fr : Nat) : ∀ k, k ≤ 4 → (c.packK fr k).length = 1 + 4 * k := by
 intro k hk
 have hn : (c.four fr).length = 4 := rfl
 have : ∀ (l : List Nat), (l.flatMap fun v => be v 4).length = 4 * l.length := by
   intro l
   induction l with
   | nil => rfl
   | cons x l ih => rw [List.flatMap_cons, List.length_append, be_length, ih, List.length_cons]; omega
 unfold Cn.packK
 rw [List.length_append, this, List.length_take, hn]
 show 1 + _ = _
 omega
theorem packK_succ {c : Cn} {fr k v : Nat} (h : (c.four fr)[k]? = some v) : c.packK fr (k + 1) = c.packK fr k ++ be v 4 := by
 unfold Cn.packK
 rw [List.take_add_one, h, List.flatMap_append, List.append_assoc]; simp
theorem four_some (c : Cn) (fr : Nat) {k : Nat} (h : k < 4) : ∃ v, (c.four fr)[k]? = some v := ⟨(c.four fr)[k]'(by exact h), List.getElem?_eq_getElem _⟩
theorem four_row {c : Cn} {fr k v : Nat} (h : (c.four fr)[k]? = some v) : (((c.four fr).map (fun v : Nat => Value.int .u32 (v : Int))).drop (k * 1)).take 1 = [.int .u32 (v : Int)] := by
 have h1 : ((c.four fr).map (fun v : Nat => Value.int .u32 (v : Int)))[k]? = some (.int .u32 (v : Int)) := by rw [List.getElem?_map, h]; rfl
 have hl := (List.getElem?_eq_some_iff.1 h1).1
 have he := (List.getElem?_eq_some_iff.1 h1).2
 rw [Nat.mul_one, List.drop_eq_getElem_cons hl, he]; rfl
theorem four_lt {c : Cn} {fr v : Nat} (hw : wfC c) (h : v ∈ c.four fr) : v < 4294967296 := by
 obtain ⟨⟨h1, h2, h3, h4⟩, _⟩ := hw
 simp only [Cn.four, List.mem_cons, List.not_mem_nil, or_false] at h
 omega
abbrev OwnBX (x : BX) : HProp := OwnB x.v x.b
theorem outL_reset {c : Cn} (h : c.reset = true) : c.outL = [] := by unfold Cn.outL; rw [if_pos h]
theorem outL_say {c : Cn} {rows : List BX} (h : c.reset = false) (hr : rows.map BX.b = if c.known then c.chunks 5 c.sent else []) (hs : c.say = true) (h0 : rows.length = 0) : c.outL = [c.packet (if c.known then c.out.length else c.sent) []] := by
 unfold Cn.outL
 rw [if_neg (by rw [h]; decide), ← hr, List.eq_nil_of_length_eq_zero h0, hs]; rfl
theorem outL_rows {c : Cn} {rows : List BX} (h : c.reset = false) (hr : rows.map BX.b = if c.known then c.chunks 5 c.sent else []) (hs : c.say = false ∨ rows.length ≠ 0) : c.outL = rows.map BX.b := by
 unfold Cn.outL
 rw [if_neg (by rw [h]; decide), ← hr]
 rcases hs with hs | hs
 · rw [hs]; rfl
 have e : (rows.map BX.b).isEmpty = false := by
   cases rows with
   | nil => exact absurd rfl hs
   | cons x l => rfl
 simp only []
 rw [e, Bool.and_false]; rfl
theorem chunks_nil {c : Cn} {f s : Nat} (h : min (c.out.length - s) 1024 = 0) : c.chunks f s = [] := by
 cases f with
 | zero => rfl
 | succ f => rw [Cn.chunks, if_pos h]
theorem chunks_cons {c : Cn} {f s : Nat} (h : ¬ min (c.out.length - s) 1024 = 0) : c.chunks (f + 1) s = c.packet s ((c.out.drop s).take (min (c.out.length - s) 1024)) :: c.chunks f (s + min (c.out.length - s) 1024) := by rw [Cn.chunks, if_neg h]
theorem be4_lt (bs : List UInt8) : beV (bs.take 4) < 4294967296 := by
 have h1 := beV_lt (bs.take 4)
 have h2 : 256 ^ (bs.take 4).length ≤ 256 ^ 4 := Nat.pow_le_pow_right (by decide) (by rw [List.length_take]; omega)
 have h3 : (256 : Nat) ^ 4 = 4294967296 := by decide
 omega
theorem flag_or {f : Nat} (h : f < 128) : (UInt8.ofNat f).toNat ||| 128 = (UInt8.ofNat (f + 128)).toNat := by
 have h1 : ∀ q : Fin 128, (UInt8.ofNat q.val).toNat ||| 128 = (UInt8.ofNat (q.val + 128)).toNat := by decide
 exact h1 ⟨f, h⟩
end Go.Sl.TpM
namespace Go.Proofs.YtjfmjbmkkpkppaaGreatDoor
open Go.Proofs.Tryz
open Go Go.Sl Go.Sl.BitM Go.Sl.SpM Go.Sl.RsM Go.Sl.ByM Go.Sl.UnM Go.Sl.TpM
set_option maxHeartbeats 1000000
set_option maxRecDepth 8000
variable {W0 w : World} {L F : List HProp}
theorem table_ok (h : On W0 L w) : Calls Tryz.prog 109 #[] w (Ret fun v w' => v = .agg (tabL 16).toArray ∧ On W0 L w') := by
 refine enter func109 rfl ntmps109 rfl (W.sr (WL.e (eff_alloc h zeroValue190 rfl) ?_))
 rintro _ w ⟨b0, rfl, h⟩
 refine WL.nil (W.sr (WL.e (eff_alloc h zeroValue190 rfl) ?_))
 rintro _ w ⟨b1, rfl, h⟩
 refine WL.nil (W.seq (W.seq ?_))
 have h := Own.ofBlk (n := 16) (size := 1) h rfl (by decide)
 have h : On W0 (Own 1 (.slice (some ⟨b1, 0, none⟩) 16 16) 16 (tabL 0) :: blk b0 [.int .u32 0, .int .u32 0, .int .u32 0, .int .u32 0, .int .u32 0, .int .u32 0, .int .u32 0, .int .u32 0, .int .u32 0, .int .u32 0, .int .u32 0, .int .u32 0, .int .u32 0, .int .u32 0, .int .u32 0, .int .u32 0] 190 :: L) w := h
 refine W.region (WL.m (WL.nil (W.block ?_)))
 refine W.loop (fun (i : Nat) env w => i ≤ 16 ∧ ∃ j, env = mkE j [(0, .pointer (some ⟨b0, 0, none⟩)), (1, .pointer (some ⟨b1, 0, none⟩)), (4, .int .i64 (i : Nat))] ∧ On W0 (Own 1 (.slice (some ⟨b1, 0, none⟩) 16 16) 16 (tabL i) :: blk b0 [.int .u32 0, .int .u32 0, .int .u32 0, .int .u32 0, .int .u32 0, .int .u32 0, .int .u32 0, .int .u32 0, .int .u32 0, .int .u32 0, .int .u32 0, .int .u32 0, .int .u32 0, .int .u32 0, .int .u32 0, .int .u32 0] 190 :: L) w) (fun i => 16 - i) (0) ?_ ?_
 · exact ⟨by omega, _, mkE_of ⟨rfl, rfl, rfl, trivial⟩, h⟩
 rintro i env w ⟨hi, j, rfl, h⟩
 refine W.sr (WL.v (run_lss rfl rfl) (WL.nil (W.seq ?_)))
 refine W.condIf rfl (fun c6 => ?_) (fun c6 => ?_)
 ·
  refine W.skip (W.seq (W.block (W.sr (WL.m (WL.z ?_)))))
  refine W.seq ?_
  have hi16 : i < 16 := by omega
  refine W.region (WL.m (WL.v (run_convIn underlying3 underlying24 rfl (by show (0 : Int) ≤ _; omega) (by show _ ≤ (4294967295 : Int); omega)) (WL.z (W.seq (W.sr ?_)))))
  refine WL.m (WL.nil (W.block ?_))
  refine W.loop (fun (k : Nat) env w => k ≤ 4 ∧ ∃ j, env = mkE j [(0, .pointer (some ⟨b0, 0, none⟩)), (1, .pointer (some ⟨b1, 0, none⟩)), (2, .int .i64 (i : Nat)), (3, .int .u32 (itS k i : Nat)), (4, .int .i64 (i : Nat)), (9, .int .i64 (k : Nat))] ∧ On W0 (Own 1 (.slice (some ⟨b1, 0, none⟩) 16 16) 16 (tabL i) :: blk b0 [.int .u32 0, .int .u32 0, .int .u32 0, .int .u32 0, .int .u32 0, .int .u32 0, .int .u32 0, .int .u32 0, .int .u32 0, .int .u32 0, .int .u32 0, .int .u32 0, .int .u32 0, .int .u32 0, .int .u32 0, .int .u32 0] 190 :: L) w) (fun k => 4 - k) (0) ?_ ?_
  · exact ⟨by omega, _, mkE_of ⟨rfl, rfl, rfl, rfl, rfl, rfl, trivial⟩, h⟩
  rintro k env w ⟨hk, j, rfl, h⟩
  have hlt : itS k i < 4294967296 := itS_lt (by omega) k
  have hlt1 := sN_lt hlt
  have hm2 : itS k i % 2 ^ 1 < 2 := Nat.mod_lt _ (by decide)
  refine W.sr (WL.v (run_lss rfl rfl) (WL.nil (W.seq ?_)))
  refine W.condIf rfl (fun c16 => ?_) (fun c16 => ?_)
  ·
   refine W.skip (W.seq (W.block (W.region (WL.m (WL.v (run_shrN (m := itS k i) (j := 1) rfl rfl (by decide)) (WL.m (WL.v (run_andMod (k := .u32) 1 (m := itS k i) (n := 1) rfl rfl (Int.ofNat_le.2 (show _ ≤ 4294967295 by omega)) (by decide) rfl) ?_)))))))
   refine WL.v (run_negBit (m := itS k i % 2 ^ 1) rfl hm2) (WL.v (run_andN (k := .u32) (m := itS k i % 2 ^ 1 * 4294967295) (n := poly) rfl rfl (Int.ofNat_le.2 (show _ ≤ 4294967295 by omega)) (by decide)) (WL.v (run_xorN (k := .u32) (m := itS k i / 2 ^ 1) (n := itS k i % 2 ^ 1 * 4294967295 &&& poly) rfl rfl (Int.ofNat_le.2 (show _ ≤ 4294967295 by omega)) (Int.ofNat_le.2 (show _ ≤ 4294967295 from Nat.le_trans Nat.and_le_right (by decide))) (Int.ofNat_le.2 (show _ ≤ 4294967295 by rw [step_mask]; omega))) (WL.z (W.region (WL.v (run_add rfl rfl (by omega) (by omega)) (WL.m ?_))))))
   refine WL.nil ?_
   exact ⟨k + 1, ⟨by omega, _, mkE_of ⟨rfl, rfl, rfl, (congrArg (fun z : Nat => Value.int .u32 (z : Int)) (step_mask (itS k i))), rfl, rfl, trivial⟩, h⟩, by show 4 - (k + 1) < 4 - k; omega⟩
  refine W.exit ?_
  have hk4 : k = 4 := by omega
  subst hk4
  refine W.region (WL.m (WL.m (WL.v (run_indexAddrArr underlying190 sizeOf24 rfl rfl (by omega) (by omega)) (WL.e (eff_storeOwn (v := .int .u32 (itS 4 i : Nat)) (k := i * 1) h sizeOf24 rfl rfl rfl (by omega)) ?_))))
  rintro _ w h
  refine WL.nil (W.region (WL.v (run_add rfl rfl (by omega) (by omega)) (WL.m (WL.nil ?_))))
  rw [itS4, tabL_set i hi16] at h
  exact ⟨i + 1, ⟨by omega, _, mkE_of ⟨rfl, rfl, rfl, trivial⟩, h⟩, by show 16 - (i + 1) < 16 - i; omega⟩
 refine W.exit (W.seq ?_)
 have hi16 : i = 16 := by omega
 subst hi16
 refine W.region (WL.v (run_loadN isAgg190 sizeOf190 rfl rfl (fun j u hj => (h.cellsO (v := .slice (some ⟨b1, 0, none⟩) 16 16)).cell rfl (by omega) hj)) (WL.e (eff_storeN (vs := tabL 16) h sizeOf190 rfl rfl (tabL_length 16) (by simpa using tabL_one 16) rfl (fun k _ _ => free0 k)) ?_))
 rintro _ w h
 rw [take_splice0 (by rw [tabL_length]; rfl)] at h
 refine WL.nil (W.ret (bodyQ.rcB (vs := tabL 16) h results109 isAgg190 sizeOf190 rfl rfl (tabL_length 16) ?_))
 exact ⟨rfl, h.to⟩
theorem run_ok {ax : Option Addr} {cx : Nat} {bs : List UInt8} {s : Nat} (hs : s < 4294967296) (h : On W0 L w) (C : Gives L (Bytes (.slice ax bs.length cx) bs)) : Calls Tryz.prog 108 #[.agg (tabL 16).toArray, .int .u32 (s : Int), .slice ax bs.length cx] w (Ret fun v w' => v = .int .u32 ((4294967295 ^^^ crcR (4294967295 ^^^ s) bs : Nat) : Int) ∧ On W0 L w') := by
 refine enter func108 rfl ntmps108 rfl ?_
 have hmx := maxLen_eq
 have ob_ := Cells.bounds (h.readsTo C)
 obtain ⟨hbc, hbm⟩ := ob_
 have hs0 : 4294967295 ^^^ s < 4294967296 := Nat.xor_lt_two_pow (n := 32) (by decide) hs
 refine W.sr (WL.e (eff_box (v := .agg (tabL 16).toArray) (l := tabL 16) h rfl rfl) ?_)
 rintro _ w ⟨b3, rfl, h⟩
 have h := Own.ofBlk (n := 16) (size := 1) h (tabL_length 16) (by decide)
 refine WL.z (W.sr (WL.m (WL.v (run_compl32 rfl hs) (WL.z ?_))))
 refine W.seq (W.sr (WL.m (WL.v (run_lenSlice underlying26 rfl) (WL.m (WL.nil (W.block ?_))))))
 refine W.loop (fun (k : Nat) env w => k ≤ bs.length ∧ ∃ j, env = mkE j [(3, .pointer (some ⟨b3, 0, none⟩)), (7, .int .u32 (crcR (4294967295 ^^^ s) (bs.take k) : Nat)), (12, .slice ax bs.length cx), (13, .int .i64 (bs.length : Nat)), (14, .int .i64 (k : Nat))] ∧ On W0 (Own 1 (.slice (some ⟨b3, 0, none⟩) 16 16) 16 (tabL 16) :: L) w) (fun k => bs.length - k) (0) ?_ ?_
 · exact ⟨Nat.zero_le _, _, mkE_of ⟨rfl, rfl, rfl, rfl, rfl, trivial⟩, h⟩
 rintro k env w ⟨hk, j, rfl, h⟩
 refine W.sr (WL.v (run_lss rfl rfl) (WL.nil (W.seq ?_)))
 refine W.condIf rfl (fun c6 => ?_) (fun c6 => ?_)
 ·
  refine W.skip (W.seq (W.block (W.seq ?_)))
  have ob_ : ∃ c, bs[k]? = some c := ⟨bs[k]'(by omega), List.getElem?_eq_getElem _⟩
  obtain ⟨c, hc⟩ := ob_
  have hCC := h.readsTo C
  have ob_ := Cells.addr hCC (by omega)
  obtain ⟨ba, oa, haa⟩ := ob_
  subst haa
  have hc8 := c.toNat_lt
  have hv := crcR_lt hs0 (bs.take k)
  have hm1 : (crcR (4294967295 ^^^ s) (bs.take k) ^^^ c.toNat) < 4294967296 := Nat.xor_lt_two_pow (n := 32) hv (by omega)
  have hm2e : ((crcR (4294967295 ^^^ s) (bs.take k) ^^^ c.toNat) / 2 ^ 4 ^^^ s4 ((crcR (4294967295 ^^^ s) (bs.take k) ^^^ c.toNat) % 2 ^ 4)) = s4 (crcR (4294967295 ^^^ s) (bs.take k) ^^^ c.toNat) := s4_step _
  have hm2 : ((crcR (4294967295 ^^^ s) (bs.take k) ^^^ c.toNat) / 2 ^ 4 ^^^ s4 ((crcR (4294967295 ^^^ s) (bs.take k) ^^^ c.toNat) % 2 ^ 4)) < 4294967296 := by rw [hm2e]; exact s4_lt hm1
  have hd1 : (crcR (4294967295 ^^^ s) (bs.take k) ^^^ c.toNat) % 2 ^ 4 < 16 := Nat.mod_lt _ (by decide)
  have hd2 : ((crcR (4294967295 ^^^ s) (bs.take k) ^^^ c.toNat) / 2 ^ 4 ^^^ s4 ((crcR (4294967295 ^^^ s) (bs.take k) ^^^ c.toNat) % 2 ^ 4)) % 2 ^ 4 < 16 := Nat.mod_lt _ (by decide)
  have hstep : crcR (4294967295 ^^^ s) (bs.take (k + 1)) = ((crcR (4294967295 ^^^ s) (bs.take k) ^^^ c.toNat) / 2 ^ 4 ^^^ s4 ((crcR (4294967295 ^^^ s) (bs.take k) ^^^ c.toNat) % 2 ^ 4)) / 2 ^ 4 ^^^ s4 (((crcR (4294967295 ^^^ s) (bs.take k) ^^^ c.toNat) / 2 ^ 4 ^^^ s4 ((crcR (4294967295 ^^^ s) (bs.take k) ^^^ c.toNat) % 2 ^ 4)) % 2 ^ 4) := by
    rw [s4_step, hm2e, Sl.take_snoc hc, crcR_snoc]; rfl
  refine W.region (WL.v (run_indexAddr underlying26 sizeOf5 rfl rfl (by omega) (by omega)) (WL.l isAgg5 rfl ((h.readsTo C).elem (i := k) (vs := [.int .u8 (c.toNat : Int)]) (by omega) (bytes_row hc) 0 _ rfl) (WL.z (W.sr (WL.m ?_)))))
  refine WL.m (WL.v (run_convIn underlying5 underlying24 rfl (by show (0 : Int) ≤ _; omega) (Int.ofNat_le.2 (show _ ≤ 4294967295 by omega))) (WL.v (run_xorN (k := .u32) (m := crcR (4294967295 ^^^ s) (bs.take k)) (n := c.toNat) rfl rfl (Int.ofNat_le.2 (show _ ≤ 4294967295 by omega)) (Int.ofNat_le.2 (show _ ≤ 4294967295 by omega)) (Int.ofNat_le.2 (show _ ≤ 4294967295 by omega))) (WL.z (W.sr (WL.m ?_)))))
  refine WL.v (run_shrN (m := (crcR (4294967295 ^^^ s) (bs.take k) ^^^ c.toNat)) (j := 4) rfl rfl (by decide)) (WL.m (WL.v (run_andMod 4 (m := (crcR (4294967295 ^^^ s) (bs.take k) ^^^ c.toNat)) (n := 15) rfl rfl (Int.ofNat_le.2 (show _ ≤ 4294967295 by omega)) (by decide) rfl) (WL.v (run_indexAddrArr underlying190 sizeOf24 rfl rfl (by omega) (by show _ < (16 : Int); omega)) (WL.l isAgg24 rfl ((h.cellsO (v := .slice (some ⟨b3, 0, none⟩) 16 16)).elem (i := (crcR (4294967295 ^^^ s) (bs.take k) ^^^ c.toNat) % 2 ^ 4) (vs := [.int .u32 (s4 ((crcR (4294967295 ^^^ s) (bs.take k) ^^^ c.toNat) % 2 ^ 4) : Nat)]) (by omega) (tab_row (by omega)) 0 _ rfl) ?_))))
  refine WL.v (run_xorN (k := .u32) (m := (crcR (4294967295 ^^^ s) (bs.take k) ^^^ c.toNat) / 2 ^ 4) (n := s4 ((crcR (4294967295 ^^^ s) (bs.take k) ^^^ c.toNat) % 2 ^ 4)) rfl rfl (Int.ofNat_le.2 (show _ ≤ 4294967295 by omega)) (Int.ofNat_le.2 (show _ ≤ 4294967295 by have := s4_lt (v := (crcR (4294967295 ^^^ s) (bs.take k) ^^^ c.toNat) % 2 ^ 4) (by omega); omega)) (Int.ofNat_le.2 (show _ ≤ 4294967295 by rw [s4_step]; have := s4_lt hm1; omega))) ?_
  refine WL.z (W.region (WL.m (WL.v (run_shrN (m := ((crcR (4294967295 ^^^ s) (bs.take k) ^^^ c.toNat) / 2 ^ 4 ^^^ s4 ((crcR (4294967295 ^^^ s) (bs.take k) ^^^ c.toNat) % 2 ^ 4))) (j := 4) rfl rfl (by decide)) (WL.m (WL.v (run_andMod 4 (m := ((crcR (4294967295 ^^^ s) (bs.take k) ^^^ c.toNat) / 2 ^ 4 ^^^ s4 ((crcR (4294967295 ^^^ s) (bs.take k) ^^^ c.toNat) % 2 ^ 4))) (n := 15) rfl rfl (Int.ofNat_le.2 (show _ ≤ 4294967295 by omega)) (by decide) rfl) (WL.v (run_indexAddrArr underlying190 sizeOf24 rfl rfl (by omega) (by show _ < (16 : Int); omega)) ?_))))))
  refine WL.l isAgg24 rfl ((h.cellsO (v := .slice (some ⟨b3, 0, none⟩) 16 16)).elem (i := ((crcR (4294967295 ^^^ s) (bs.take k) ^^^ c.toNat) / 2 ^ 4 ^^^ s4 ((crcR (4294967295 ^^^ s) (bs.take k) ^^^ c.toNat) % 2 ^ 4)) % 2 ^ 4) (vs := [.int .u32 (s4 (((crcR (4294967295 ^^^ s) (bs.take k) ^^^ c.toNat) / 2 ^ 4 ^^^ s4 ((crcR (4294967295 ^^^ s) (bs.take k) ^^^ c.toNat) % 2 ^ 4)) % 2 ^ 4) : Nat)]) (by omega) (tab_row (by omega)) 0 _ rfl) ?_
  refine WL.v (run_xorN (k := .u32) (m := ((crcR (4294967295 ^^^ s) (bs.take k) ^^^ c.toNat) / 2 ^ 4 ^^^ s4 ((crcR (4294967295 ^^^ s) (bs.take k) ^^^ c.toNat) % 2 ^ 4)) / 2 ^ 4) (n := s4 (((crcR (4294967295 ^^^ s) (bs.take k) ^^^ c.toNat) / 2 ^ 4 ^^^ s4 ((crcR (4294967295 ^^^ s) (bs.take k) ^^^ c.toNat) % 2 ^ 4)) % 2 ^ 4)) rfl rfl (Int.ofNat_le.2 (show _ ≤ 4294967295 by omega)) (Int.ofNat_le.2 (show _ ≤ 4294967295 by have := s4_lt (v := ((crcR (4294967295 ^^^ s) (bs.take k) ^^^ c.toNat) / 2 ^ 4 ^^^ s4 ((crcR (4294967295 ^^^ s) (bs.take k) ^^^ c.toNat) % 2 ^ 4)) % 2 ^ 4) (by omega); omega)) (Int.ofNat_le.2 (show _ ≤ 4294967295 by rw [s4_step]; have := s4_lt hm2; omega))) ?_
  refine WL.z (W.region (WL.v (run_add rfl rfl (by omega) (by omega)) (WL.m (WL.nil ?_))))
  exact ⟨k + 1, ⟨by omega, _, mkE_of ⟨rfl, (congrArg (fun z : Nat => Value.int .u32 (z : Int)) hstep).symm, rfl, rfl, rfl, trivial⟩, h⟩, by show bs.length - (k + 1) < bs.length - k; omega⟩
 refine W.exit (W.sr (WL.m (WL.v (run_compl32 rfl (crcR_lt hs0 _)) (WL.z (W.ret ?_)))))
 refine bodyQ.r1 (v := .int .u32 _) results108 rfl ?_
 have e : bs.take k = bs := List.take_of_length_le (by omega)
 exact ⟨by rw [e], h.tail⟩
theorem more_ok {ax : Option Addr} {cx : Nat} {bs : List UInt8} {s : Nat} (hs : s < 4294967296) (h : On W0 L w) (C : Gives L (Bytes (.slice ax bs.length cx) bs)) : Calls Tryz.prog 76 #[.int .u32 (s : Int), .slice ax bs.length cx] w (Ret fun v w' => v = .int .u32 ((4294967295 ^^^ crcR (4294967295 ^^^ s) bs : Nat) : Int) ∧ On W0 L w') := by
 refine enter func76 rfl ntmps76 rfl (W.sr (WL.z (W.sr (WL.e (eff_call call109 (table_ok h)) ?_))))
 rintro _ w ⟨rfl, h⟩
 refine WL.m (WL.m (WL.e (eff_call call108 (run_ok hs h C)) ?_))
 rintro _ w ⟨rfl, h⟩
 refine WL.z (W.ret (bodyQ.r1 (v := .int .u32 _) results76 rfl ?_))
 exact ⟨rfl, h⟩
theorem sum_ok {ax : Option Addr} {cx : Nat} {bs : List UInt8} (h : On W0 L w) (C : Gives L (Bytes (.slice ax bs.length cx) bs)) : Calls Tryz.prog 46 #[.slice ax bs.length cx] w (Ret fun v w' => v = .int .u32 (crcS bs : Int) ∧ On W0 L w') := by
 refine enter func46 rfl ntmps46 rfl (W.sr (WL.z (W.sr (WL.m ?_))))
 refine WL.e (eff_call call76 (more_ok (s := 0) (by decide) h C)) ?_
 rintro _ w ⟨rfl, h⟩
 refine WL.z (W.ret (bodyQ.r1 (v := .int .u32 _) results46 rfl ?_))
 exact ⟨rfl, h⟩
theorem low_ok {a : Option Addr} {c s : Nat} {bs : List UInt8} (hb : bs.length ≤ 1000000000000) (h : On W0 (Own 1 (.slice a bs.length c) bs.length (bytesV bs) :: L) w) : Calls Tryz.prog 45 #[.slice a bs.length c, .int .u32 (s : Int)] w (Ret fun v w' => ∃ a c, v = .slice a (bs.length + 4) c ∧ On W0 (Own 1 (.slice a (bs.length + 4) c) (bs.length + 4) (bytesV (bs ++ four s)) :: L) w') := by
 refine enter func45 rfl ntmps45 rfl ?_
 have hmx := maxLen_eq
 refine W.sr (WL.z (W.sr (WL.m (WL.m ?_))))
 refine WL.v (run_convByte underlying24 underlying5 rfl) (WL.m (WL.v (run_shrN (m := s) (j := 8) rfl rfl (by decide)) (WL.v (run_convByte underlying24 underlying5 rfl) (WL.m (WL.v (run_shrN (m := s) (j := 16) rfl rfl (by decide)) (WL.v (run_convByte underlying24 underlying5 rfl) (WL.m ?_)))))))
 refine WL.v (run_shrN (m := s) (j := 24) rfl rfl (by decide)) (WL.v (run_convByte underlying24 underlying5 rfl) (WL.e (eff_mkRow (out := [.int .u8 _, .int .u8 _, .int .u8 _, .int .u8 _]) h underlying26 sizeOf5 zeroValue5 rfl (by decide) rfl rfl rfl) ?_))
 rintro _ w ⟨b17, rfl, h⟩
 refine WL.e (eff_app (c2 := 4) (bytes := 1) h rfl rfl (h.cellsO (v := .slice (some ⟨b17, 0, none⟩) 4 4)) underlying26 rfl rfl rfl rfl rfl (by omega) (by omega) (fun u hu => bytes_one (bs := four s) u hu)) ?_
 rintro _ w ⟨a18, c18, rfl, h⟩
 have h : On W0 (Own 1 (.slice a18 (bs.length + 4) c18) (bs.length + 4) (bytesV bs ++ bytesV (four s)) :: _) w := h
 rw [show bytesV bs ++ bytesV (four s) = bytesV (bs ++ four s) by simp [bytesV]] at h
 refine WL.z (W.ret (bodyQ.r1 (v := .slice _ _ _) results45 rfl ?_))
 exact ⟨a18, c18, rfl, h.to⟩
theorem seal_ok {ax : Option Addr} {cx : Nat} {bs : List UInt8} (h : On W0 L w) (C : Gives L (Bytes (.slice ax bs.length cx) bs)) (hb : bs.length ≤ 1000000000000) : Calls Tryz.prog 12 #[.slice ax bs.length cx] w (Ret fun v w' => ∃ a, v = .slice a (sealB bs).length (sealB bs).length ∧ On W0 (OwnB (.slice a (sealB bs).length (sealB bs).length) (sealB bs) :: L) w') := by
 refine enter func12 rfl ntmps12 rfl (W.sr (WL.z (W.sr (WL.m ?_))))
 refine WL.e (eff_call call47 (clone_bytes h C (by omega))) ?_
 rintro _ w ⟨a4, c4, rfl, h⟩
 refine WL.m (WL.e (eff_call call46 (sum_ok h (Gives.to C))) ?_)
 rintro _ w ⟨rfl, h⟩
 refine WL.e (eff_call call45 (low_ok (s := crcS bs) hb h)) ?_
 rintro _ w ⟨a7, c7, hv, h⟩
 have el : bs.length + 4 = (sealB bs).length := by unfold sealB; rw [List.length_append]; rfl
 rw [el] at hv h
 subst hv
 refine WL.e (eff_call call43 (clip_bytes h)) ?_
 rintro _ w ⟨rfl, h⟩
 refine WL.z (W.ret (bodyQ.r1 (v := .slice _ _ _) results12 rfl ?_))
 exact ⟨a7, rfl, h⟩
theorem equal_ok {ax : Option Addr} {cx : Nat} {bs : List UInt8} {ay : Option Addr} {cy : Nat} {cs : List UInt8} (h : On W0 L w) (C : Gives L (Bytes (.slice ax bs.length cx) bs)) (C2 : Gives L (Bytes (.slice ay cs.length cy) cs)) : Calls Tryz.prog 44 #[.slice ax bs.length cx, .slice ay cs.length cy] w (Ret fun v w' => v = .bool (decide (bs = cs)) ∧ On W0 L w') := by
 refine enter func44 rfl ntmps44 rfl ?_
 have hmx := maxLen_eq
 have ob_ := Cells.bounds (h.readsTo C)
 obtain ⟨hbc, hbm⟩ := ob_
 have ob_ := Cells.bounds (h.readsTo C2)
 obtain ⟨hbc2, hbm2⟩ := ob_
 refine W.sr (WL.z (W.seq (W.sr (WL.m ?_))))
 refine WL.v (run_lenSlice underlying26 rfl) (WL.m (WL.v (run_lenSlice underlying26 rfl) (WL.v (run_neq rfl rfl) (WL.nil ?_))))
 refine W.condIf rfl (fun c2 => ?_) (fun c2 => ?_)
 ·
  refine W.sr (WL.z (W.ret (bodyQ.r1 (v := .bool _) results44 rfl ?_)))
  exact ⟨by rw [decide_eq_false (fun e => c2 (by rw [e]))], h⟩
 refine W.skip (W.seq (W.seq ?_))
 have hlen : bs.length = cs.length := by omega
 refine W.region (WL.m (WL.v (run_lenSlice underlying26 rfl) (WL.m (WL.nil (W.block ?_)))))
 refine W.loop (fun (k : Nat) env w => k ≤ bs.length ∧ bs.take k = cs.take k ∧ ∃ j, env = mkE j [(0, .slice ax bs.length cx), (1, .slice ay cs.length cy), (12, .int .i64 (bs.length : Nat)), (13, .int .i64 (k : Nat))] ∧ On W0 L w) (fun k => bs.length - k) (0) ?_ ?_
 · exact ⟨Nat.zero_le _, rfl, _, mkE_of ⟨rfl, rfl, rfl, rfl, trivial⟩, h⟩
 rintro k env w ⟨hk, hpre, j, rfl, h⟩
 refine W.sr (WL.v (run_lss rfl rfl) (WL.nil (W.seq ?_)))
 refine W.condIf rfl (fun c10 => ?_) (fun c10 => ?_)
 ·
  refine W.skip (W.seq (W.block (W.seq ?_)))
  have ob_ : ∃ x, bs[k]? = some x := ⟨bs[k]'(by omega), List.getElem?_eq_getElem _⟩
  obtain ⟨x, hx⟩ := ob_
  have ob_ : ∃ y, cs[k]? = some y := ⟨cs[k]'(by omega), List.getElem?_eq_getElem _⟩
  obtain ⟨y, hy⟩ := ob_
  have hCC := h.readsTo C
  have ob_ := Cells.addr hCC (by omega)
  obtain ⟨ba, oa, haa⟩ := ob_
  subst haa
  have hCD := h.readsTo C2
  have ob_ := Cells.addr hCD (by omega)
  obtain ⟨bb, ob, hbb⟩ := ob_
  subst hbb
  refine W.region (WL.m (WL.z (W.seq ?_)))
  refine W.draw Tryz.follows h (fun w h => ?_)
  refine WT.m 0 rfl (WT.m 1 rfl (WT.p 2 rfl (fun w' => (run_indexAddr underlying26 sizeOf5 rfl rfl (by omega) (by omega))) (WT.l 3 rfl isAgg5 rfl ((h.readsTo C).elem (i := k) (vs := [.int .u8 (x.toNat : Int)]) (by omega) (bytes_row hx) 0 _ rfl) (WT.m 4 rfl (WT.m 5 rfl (WT.p 6 rfl (fun w' => (run_indexAddr underlying26 sizeOf5 rfl rfl (by omega) (by omega))) (WT.l 7 rfl isAgg5 rfl ((h.readsTo C2).elem (i := k) (vs := [.int .u8 (y.toNat : Int)]) (by omega) (bytes_row hy) 0 _ rfl) ?_)))))))
  refine WT.p 8 rfl (fun w' => (run_neq rfl rfl)) (WT.dn ?_)
  refine W.condIf rfl (fun c16 => ?_) (fun c16 => ?_)
  ·
   refine W.sr (WL.z (W.ret (bodyQ.r1 (v := .bool _) results44 rfl ?_)))
   first
     | exact ⟨by rw [decide_eq_false (fun e => c16 (by rw [e] at hx; rw [hx] at hy; cases hy; rfl))], h⟩
     | (have e : bs = cs := by
          rw [List.take_of_length_le (show bs.length ≤ k by omega), List.take_of_length_le (show cs.length ≤ k by omega)] at hpre
          exact hpre
        exact ⟨by rw [decide_eq_true e], h⟩)
  refine W.skip (W.region (WL.v (run_add rfl rfl (by omega) (by omega)) (WL.m (WL.nil ?_))))
  have hxy : x = y := UInt8.toNat_inj.1 (by have := Decidable.not_not.1 c16; omega)
  exact ⟨k + 1, ⟨by omega, by rw [Sl.take_snoc hx, Sl.take_snoc hy, hpre, hxy], _, mkE_of ⟨rfl, rfl, rfl, rfl, trivial⟩, h⟩, by show bs.length - (k + 1) < bs.length - k; omega⟩
 refine W.exit (W.sr (WL.z (W.ret (bodyQ.r1 (v := .bool _) results44 rfl ?_))))
 first
   | exact ⟨by rw [decide_eq_false (fun e => c16 (by rw [e] at hx; rw [hx] at hy; cases hy; rfl))], h⟩
   | (have e : bs = cs := by
        rw [List.take_of_length_le (show bs.length ≤ k by omega), List.take_of_length_le (show cs.length ≤ k by omega)] at hpre
        exact hpre
      exact ⟨by rw [decide_eq_true e], h⟩)
theorem open_ok {ax : Option Addr} {cx : Nat} {bs : List UInt8} (h : On W0 L w) (C : Gives L (Bytes (.slice ax bs.length cx) bs)) (hb : bs.length ≤ 1000000000000) : Calls Tryz.prog 11 #[.slice ax bs.length cx] w (Ret fun v w' => ((openB bs).2 = 0 ∧ 4 ≤ bs.length ∧ ∃ a, v = .tuple #[.slice a (bs.take (bs.length - 4)).length (bs.take (bs.length - 4)).length, .int .i64 0] ∧ On W0 (OwnB (.slice a (bs.take (bs.length - 4)).length (bs.take (bs.length - 4)).length) (bs.take (bs.length - 4)) :: L) w') ∨ ((openB bs).2 ≠ 0 ∧ v = .tuple #[.slice none 0 0, .int .i64 (openB bs).2] ∧ On W0 L w')) := by
 refine enter func11 rfl ntmps11 rfl ?_
 have hmx := maxLen_eq
 have ob_ := Cells.bounds (h.readsTo C)
 obtain ⟨hbc, hbm⟩ := ob_
 refine W.sr (WL.a (WL.z (W.seq (W.sr ?_))))
 refine WL.m (WL.v (run_lenSlice underlying26 rfl) (WL.v (run_lss rfl rfl) (WL.nil ?_)))
 refine W.condIf rfl (fun c2 => ?_) (fun c2 => ?_)
 ·
  refine W.sr (WL.a (WL.z (W.ret (bodyQ.r2 (v1 := .slice _ _ _) (v2 := .int .i64 _) results11 rfl rfl ?_))))
  have e : openB bs = ([], 3) := by unfold openB; rw [if_pos (by omega)]
  exact .inr ⟨by rw [e]; decide, by rw [e], h⟩
 refine W.skip (W.seq ?_)
 have ob_ : ∃ B, B = bs.take (bs.length - 4) := ⟨_, rfl⟩
 obtain ⟨B, hBe⟩ := ob_
 have ob_ : ∃ T, T = bs.drop (bs.length - 4) := ⟨_, rfl⟩
 obtain ⟨T, hTe⟩ := ob_
 have hBl : B.length = bs.length - 4 := by rw [hBe, List.length_take]; omega
 have hTl : T.length = 4 := by rw [hTe, List.length_drop]; omega
 have gB : Gives L (Bytes (.slice ax B.length cx) B) := by rw [hBe]; exact front_bytes C (by omega)
 have hct := cut_bytes (l := B.length) (h := bs.length) C hbc (by omega) (Nat.le_refl _)
 have e4 : (bs.drop B.length).take (bs.length - B.length) = T := by rw [hTe, hBl]; exact List.take_of_length_le (by rw [List.length_drop]; omega)
 rw [e4] at hct
 obtain ⟨a', c', hcut, gT⟩ := hct
 have hop : openB bs = if four (crcS B) ≠ T then ([], 4) else (B, 0) := by unfold openB; rw [if_neg (by omega), ← hBe, ← hTe]
 refine W.region (WL.m (WL.m (WL.v (run_lenSlice underlying26 rfl) (WL.v (run_subNV (m := bs.length) (n := 4) (r := B.length) rfl rfl (by omega) (by omega) hBl.symm) (WL.v (run_cutH underlying26 sizeOf5 rfl rfl  (by omega)) (WL.z ?_))))))
 refine W.seq (W.seq ?_)
 refine W.draw Tryz.follows h (fun w h => ?_)
 refine WT.m 0 rfl (WT.m 3 rfl (WT.m 4 rfl (WT.p 5 rfl (fun w' => (run_lenSlice underlying26 rfl)) (WT.p 6 rfl (fun w' => (run_cutLV (n := bs.length) (l := B.length) underlying26 sizeOf5 rfl rfl (by omega) hcut)) (WT.e 1 [] rfl (eff_call call46 (sum_ok (bs := B) h gB)) ?_)))))
 rintro _ w ⟨rfl, h⟩
 refine ⟨trivial, ?_⟩
 refine WT.e 2 [] rfl (eff_call call45 (low_ok (s := crcS B) (a := none) (c := 0) (bs := []) (by decide) (h.ownEmpty 1 none))) ?_
 rintro _ w ⟨a15, c15, rfl, h⟩
 have h : On W0 (Own 1 (.slice a15 (four (crcS B)).length c15) (four (crcS B)).length (bytesV (four (crcS B))) :: L) w := h
 refine ⟨trivial, ?_⟩
 refine WT.e 7 [] rfl (eff_call call44 (equal_ok (bs := four (crcS B)) (cs := T) h (Gives.ownO (v := .slice a15 (four (crcS B)).length c15)) (Gives.to gT))) ?_
 rintro _ w ⟨rfl, h⟩
 refine ⟨trivial, ?_⟩
 refine WT.p 8 rfl (fun w' => (run_notDec rfl)) (WT.dn ?_)
 refine W.condIf rfl (fun c8 => ?_) (fun c8 => ?_)
 ·
  refine W.sr (WL.a (WL.z (W.ret (bodyQ.r2 (v1 := .slice _ _ _) (v2 := .int .i64 _) results11 rfl rfl ?_))))
  rw [if_pos c8] at hop
  exact .inr ⟨by rw [hop]; decide, by rw [hop], h.to⟩
 refine W.skip (W.sr (WL.m (WL.e (eff_call call47 (clone_bytes h (Gives.to gB) (by omega))) ?_)))
 rintro _ w ⟨a23, c23, rfl, h⟩
 refine WL.e (eff_call call43 (clip_bytes h)) ?_
 rintro _ w ⟨rfl, h⟩
 refine WL.a (WL.z (W.ret (bodyQ.r2 (v1 := .slice _ _ _) (v2 := .int .i64 _) results11 rfl rfl ?_)))
 rw [if_neg c8] at hop
 refine .inl ⟨by rw [hop], by omega, a23, ?_, ?_⟩
 · rw [← hBe]
 rw [← hBe]; exact h.to
end Go.Proofs.YtjfmjbmkkpkppaaGreatDoor
namespace Go.Sl
open Go
section
variable {P : Program} {W0 w : World} {L : List HProp} {ρ : Operand → Value} {d : Option Nat} {ty : TypeId} {pos : String} {af : Array Edge} {g : Option (Nat × Bool)}
theorem run_cutArr {t e n size b o : Nat} {x : Operand} (hU : P.underlying t = some (.array n e)) (hS : ∀ w, (sizeOf e).run P w = .ok size w) (hx : ρ x = .pointer (some ⟨b, o, none⟩)) :
   (execOp ρ ⟨d, .slice t x none none none, ty, pos, af, g⟩).run P w = .ok (.value (.slice (some ⟨b, o, none⟩) n n)) w := by
 have e0 : (if n = 0 then (⟨b, o, none⟩ : Addr) else Addr.add ⟨b, o, none⟩ 0) = ⟨b, o, none⟩ := by split <;> simp [Addr.add]
 simp [execOp, Instr.sliceAt, run_underlying hU, hx, Instr.sureAddr, Instr.sliceBounds, Instr.sliceBound, hS, e0]
theorem run_toArr {t e n m c : Nat} {a : Option Addr} {x : Operand} (hU : P.underlying t = some (.array n e)) (hx : ρ x = .slice a m c) (h : n ≤ m) :
   (execOp ρ ⟨d, .sliceToArrayPointer t x, ty, pos, af, g⟩).run P w = .ok (.value (.pointer a)) w := by
 have h1 : ¬ m < n := by omega
 simp [execOp, Instr.arrayAt, run_underlying hU, hx, h1]
theorem Gives.part {b e n o : Nat} {l xs : List Value} [i : HasBlk L b l e (0, 0)] (hp : (l.drop o).take n = xs) (hl : o + n ≤ l.length) (hm : n ≤ maxLen) : Gives L (Cells 1 (.slice (some ⟨b, o, none⟩) n n) n xs) := fun h H => by
 have hb := i.out h H
 refine ⟨by rw [← hp, List.length_take, List.length_drop]; omega, some ⟨b, o, none⟩, n, rfl, Nat.le_refl _, hm, (fun h => by cases h), fun _ => ⟨b, o, rfl, fun j u hj => ?_⟩⟩
 unfold cellH
 rw [hb]
 rw [← hp, List.getElem?_take] at hj
 split at hj
 · rw [List.getElem?_drop] at hj
   show (l.toArray)[o + j]? = some u
   simpa using hj
 cases hj
theorem and128 (c : UInt8) : (c.toNat &&& 128 = 0) ↔ ¬ 128 ≤ c.toNat := by
 have h1 : ∀ q : Fin 256, (q.val &&& 128 = 0) ↔ ¬ 128 ≤ q.val := by decide +kernel
 exact h1 ⟨c.toNat, c.toNat_lt⟩
theorem run_neqBit7 {t yt : TypeId} {x y : Operand} {c : UInt8} (hx : ρ x = .int .u8 ((c.toNat &&& 128 : Nat) : Int)) (hy : ρ y = .int .u8 0) :
   (execOp ρ ⟨d, .binOp .neq t x y yt, ty, pos, af, g⟩).run P w = .ok (.value (.bool (decide (128 ≤ c.toNat)))) w := by
 rw [run_neq hx hy]
 have e : (decide (((c.toNat &&& 128 : Nat) : Int) ≠ 0)) = decide (128 ≤ c.toNat) := by
   refine decide_eq_decide.2 ?_
   have h := and128 c
   constructor
   · intro h1
     by_cases h2 : 128 ≤ c.toNat
     · exact h2
     exact absurd (by rw [h.2 h2]; rfl) h1
   intro h1 h2
   exact h.1 (by omega) h1
 rw [e]
theorem run_andNot7 {t yt : TypeId} {x y : Operand} {c : UInt8} (hx : ρ x = .int .u8 (c.toNat : Int)) (hy : ρ y = .int .u8 128) :
   (execOp ρ ⟨d, .binOp .andNot t x y yt, ty, pos, af, g⟩).run P w = .ok (.value (.int .u8 ((c.toNat % 128 : Nat) : Int))) w := by
 rw [run_andNot hx hy]
 have h1 : ∀ q : Fin 256, IntKind.wrap .u8 ((BitVec.ofInt (IntKind.bits .u8) (q.val : Int) &&& ~~~ BitVec.ofInt (IntKind.bits .u8) 128).toNat : Int) = ((q.val % 128 : Nat) : Int) := by decide +kernel
 have h2 := h1 ⟨c.toNat, c.toNat_lt⟩
 rw [h2]
theorem cell16 {ba oa c : Nat} {bs X : List UInt8} (C : Cells 1 (.slice (some ⟨ba, oa, none⟩) bs.length c) bs.length (bytesV bs) (hp w)) (hX : (bs.drop 32).take 16 = X) :
   ∀ j u, (bytesV X)[j]? = some u → w.cell? ⟨ba, oa + 32 * 1 + j, none⟩ = some u := by
 intro j u hj
 have hl : j < (bytesV X).length := (List.getElem?_eq_some_iff.1 hj).1
 have hXl : X.length ≤ bs.length - 32 := by rw [← hX, List.length_take, List.length_drop]; omega
 have hj2 : j < X.length := by simpa [bytesV] using hl
 have e : (bytesV bs)[32 * 1 + j]? = some u := by
   rw [← hj, ← hX]
   unfold bytesV
   rw [List.map_take, List.map_drop, List.getElem?_take, List.getElem?_drop, if_pos (by rw [← hX, List.length_take] at hj2; omega)]
 rw [Nat.add_assoc]
 exact C.cell rfl (by omega) e
theorem wrapU32 {n : Nat} : IntKind.wrap .u32 (n : Int) = ((n % 4294967296 : Nat) : Int) := by
 show (n : Int) % (2 ^ 32 : Int) = _
 have e2 : (2 : Int) ^ 32 = 4294967296 := by decide
 rw [e2]; omega
theorem run_addU32 {t yt : TypeId} {x y : Operand} {m n : Nat} (hx : ρ x = .int .u32 (m : Int)) (hy : ρ y = .int .u32 (n : Int)) :
   (execOp ρ ⟨d, .binOp .add t x y yt, ty, pos, af, g⟩).run P w = .ok (.value (.int .u32 (((m + n) % 4294967296 : Nat) : Int))) w := by
 rw [run_addW hx hy, ← Int.natCast_add, wrapU32]
theorem exists16 {l : List UInt8} (h : l.length = 16) : ∃ x0 x1 x2 x3 x4 x5 x6 x7 x8 x9 xa xb xc xd xe xf : UInt8, l = [x0, x1, x2, x3, x4, x5, x6, x7, x8, x9, xa, xb, xc, xd, xe, xf] := by
 match l, h with
 | [x0, x1, x2, x3, x4, x5, x6, x7, x8, x9, xa, xb, xc, xd, xe, xf], _ => exact ⟨x0, x1, x2, x3, x4, x5, x6, x7, x8, x9, xa, xb, xc, xd, xe, xf, rfl⟩
end
section
variable {P : Program} {w : World}
theorem results_cell2_tmp {fn : Func} {p q v : Tmp} {ty tz : TypeId} (h : fn.results = #[.cell p ty, .cell q tz, .tmp v]) (tmps : Array Value) (P : Program) (w : World) :
   (results fn tmps).run P w =
     ((asAddr (tmps.getD p undef)).run P w).andThen fun a w₁ => ((loadVar ty a).run P w₁).andThen fun x w₂ => ((asAddr (tmps.getD q undef)).run P w₂).andThen fun c w₃ => ((loadVar tz c).run P w₃).andThen fun y w₄ => .ok (.tuple #[x, y, tmps.getD v undef]) w₄ := by
 simp only [results, h]
 simp [Sem.run_bind, Result.andThen]
theorem bodyQ.rcctB {W0 : World} {L : List HProp} {env : Env} {fn : Func} {R : Value → World → Prop} {t u v rt ru b c n m : Nat} {l l2 vs us : List Value} {v3 : Value} {e e2 : Nat} {fr fr2 : Nat × Nat} (H : On W0 L w) (h : fn.results = #[.cell t rt, .cell u ru, .tmp v]) (hA : ∀ w, (isAgg rt).run P w = .ok true w) (hS : ∀ w, (sizeOf rt).run P w = .ok n w) (hA2 : ∀ w, (isAgg ru).run P w = .ok true w) (hS2 : ∀ w, (sizeOf ru).run P w = .ok m w)
   (he : env t = .pointer (some ⟨b, 0, none⟩)) (he2 : env u = .pointer (some ⟨c, 0, none⟩)) [i : HasBlk L b l e fr] [i2 : HasBlk L c l2 e2 fr2] (hv : l = vs) (hl : vs.length = n) (hv2 : l2 = us) (hl2 : us.length = m) (h3 : env v = v3) (hR : R (.tuple #[.agg vs.toArray, .agg us.toArray, v3]) w) : bodyQ P fn R .ret env w := by
 refine ⟨.tuple #[.agg vs.toArray, .agg us.toArray, v3], fun tmps hg => ?_, hR⟩
 have hp : tmps.getD t undef = .pointer (some ⟨b, 0, none⟩) := by rw [hg, he]
 have hq : tmps.getD u undef = .pointer (some ⟨c, 0, none⟩) := by rw [hg, he2]
 have c1 := run_loadCells_list (P := P) w ⟨b, 0, none⟩ vs (fun j v hj => by rw [Addr.add_mk, Nat.zero_add]; exact H.cellB (i := i) (by rw [hv]; exact hj))
 have c2 := run_loadCells_list (P := P) w ⟨c, 0, none⟩ us (fun j v hj => by rw [Addr.add_mk, Nat.zero_add]; exact H.cellB (i := i2) (by rw [hv2]; exact hj))
 rw [hl] at c1
 rw [hl2] at c2
 rw [results_cell2_tmp h, hp, hq]
 simp only [asAddr, Sem.run_pure, Result.andThen_ok]
 simp [loadVar, hA, hS, c1, hA2, hS2, c2, ← h3, ← hg v]
end
end Go.Sl
namespace Go.Proofs.YtjfmjbmkkpkppaaGreatDoor
open Go.Proofs.Tryz
open Go Go.Sl Go.Sl.BitM Go.Sl.SpM Go.Sl.RsM Go.Sl.ByM Go.Sl.UnM Go.Sl.TpM
set_option maxHeartbeats 1000000
set_option maxRecDepth 8000
variable {W0 w : World} {L F : List HProp}
theorem padQ_ok {ax : Option Addr} {cx : Nat} {bs : List UInt8} (hb : bs.length ≤ 1000000) (h : On W0 L w) (C : Gives L (Bytes (.slice ax bs.length cx) bs)) : Calls Tryz.prog 41 #[.slice ax bs.length cx, .int .i64 4] w (Ret fun v w' => ∃ a, v = .slice a (padM bs).length (padM bs).length ∧ On W0 (OwnB (.slice a (padM bs).length (padM bs).length) (padM bs) :: L) w') := by
 refine enter func41 rfl ntmps41 rfl ?_
 have hmx := maxLen_eq
 refine W.sr (WL.z (W.sr (WL.m (WL.e (eff_call call47 (clone_bytes h C (by omega))) ?_))))
 rintro _ w ⟨a7, c7, rfl, h⟩
 refine WL.z (W.seq (W.sr (WL.m (WL.v (run_lssF rfl rfl (by omega)) (WL.m ?_)))))
 refine WL.m (WL.v (run_gtrF rfl rfl (by omega)) (WL.pf (WL.nil (W.cs (W.seq (W.block ?_))))))
 refine W.loop (fun (k : Nat) env w => k ≤ (4 - bs.length % 4) % 4 ∧ ∃ (j : Env) (ao : Option Addr) (co : Nat), env = mkE j [(1, .int .i64 4), (5, .slice ao (bs ++ List.replicate k 0).length co)] ∧ On W0 (OwnB (.slice ao (bs ++ List.replicate k 0).length co) (bs ++ List.replicate k 0) :: L) w) (fun k => (4 - bs.length % 4) % 4 - k) (0) ?_ ?_
 · have e0 : bs ++ List.replicate 0 0 = bs := by simp
   exact ⟨by omega, _, a7, c7, mkE_of ⟨rfl, (by rw [e0]; rfl), trivial⟩, (by rw [e0]; exact h)⟩
 rintro k env w ⟨hk, j, ao, co, rfl, h⟩
 have hpl : (bs ++ List.replicate k 0).length = bs.length + k := by rw [List.length_append, List.length_replicate]
 refine W.seq (W.sr (WL.m (WL.v (run_lenSlice underlying26 rfl) (WL.m (WL.v (run_rem rfl rfl (by omega) (by omega)) ?_)))))
 refine WL.q (run_neq rfl rfl) (fun c19 => ?_) (fun c19 => ?_)
 ·
  refine WL.nil (W.ct (W.skip (W.block ?_)))
  rw [hpl] at c19
  have hlt : k < (4 - bs.length % 4) % 4 := by omega
  refine W.region (WL.m (WL.e (eff_mkSlice (zl := [.int .u8 0]) (out := [.int .u8 _]) h underlying26 sizeOf5 zeroValue5 (by decide) (by kernel_rfl) rfl rfl (by simp) (⟨⟨_, _, rfl, rfl, by decide⟩, trivial⟩) rfl rfl (by simp [maxLen])) ?_))
  rintro _ w ⟨b21, rfl, h⟩
  refine WL.e (eff_app (c2 := 1) (bytes := 1) h rfl rfl (h.cellsO (v := .slice (some ⟨b21, 0, none⟩) 1 1)) underlying26 rfl rfl rfl rfl rfl (by omega) (by omega) (by simp [Value.oneCell'])) ?_
  rintro _ w ⟨a22, c22, rfl, h⟩
  have hbv : bytesV (bs ++ List.replicate k 0) ++ [.int .u8 0] = bytesV ((bs ++ List.replicate k 0) ++ [0]) := by simp [bytesV, byteV]
  rw [hbv] at h
  refine WL.z ?_
  have e1 : bs ++ List.replicate (k + 1) 0 = (bs ++ List.replicate k 0) ++ [0] := by rw [List.replicate_succ', List.append_assoc]
  have el : (bs ++ List.replicate (k + 1) 0).length = (bs ++ List.replicate k 0).length + 1 := by rw [e1, List.length_append]; rfl
  exact ⟨k + 1, ⟨by omega, _, a22, c22, mkE_of ⟨rfl, (by rw [el]; rfl), trivial⟩, (by unfold OwnB; rw [el, e1]; exact h.to)⟩, by show (4 - bs.length % 4) % 4 - (k + 1) < (4 - bs.length % 4) % 4 - k; omega⟩
 refine WL.nil (W.cf (W.exit (W.sr (WL.m (WL.e (eff_call call43 (clip_bytes h)) ?_)))))
 rintro _ w ⟨rfl, h⟩
 refine WL.z (W.ret (bodyQ.r1 (v := .slice _ _ _) results41 rfl ?_))
 rw [hpl] at c19
 have ob_ : k = (4 - bs.length % 4) % 4 := by omega
 obtain rfl := ob_
 exact ⟨ao, rfl, h⟩
theorem rev4_ok {bo oo co : Nat} {bs : List UInt8} (h4 : bs.length = 4) (h : On W0 (Own 1 (.slice (some ⟨bo, oo, none⟩) 4 co) 4 (bytesV bs) :: L) w) : Calls Tryz.prog 74 #[.slice (some ⟨bo, oo, none⟩) 4 co] w (Ret fun v w' => On W0 (Own 1 (.slice (some ⟨bo, oo, none⟩) 4 co) 4 (bytesV (rev4 bs 2)) :: L) w') := by
 refine enter func74 rfl ntmps74 rfl (W.sr (WL.m (WL.v (run_lenSlice underlying26 rfl) (WL.v (run_sub rfl rfl (by omega) (by omega)) (WL.a (WL.a ?_))))))
 refine WL.nil (W.block ?_)
 refine W.loop (fun (k : Nat) env w => k ≤ 2 ∧ ∃ (m : Nat) (j : Env), m + k = 3 ∧ env = mkE j [(0, .slice (some ⟨bo, oo, none⟩) 4 co), (2, .int .i64 (k : Int)), (3, .int .i64 (m : Int))] ∧ On W0 (Own 1 (.slice (some ⟨bo, oo, none⟩) 4 co) 4 (bytesV (rev4 bs k)) :: L) w) (fun k => 2 - k) (0) ?_ ?_
 · exact ⟨by decide, 3, _, rfl, mkE_of ⟨rfl, rfl, rfl, trivial⟩, h⟩
 rintro k env w ⟨hk, m, j, hm, rfl, h⟩
 refine W.seq (W.sr (WL.m (WL.m (WL.v (run_lss rfl rfl) (WL.nil ?_)))))
 refine W.condIf rfl (fun c4 => ?_) (fun c4 => ?_)
 ·
  refine W.skip (W.seq (W.block ?_))
  refine W.draw Tryz.follows h (fun w h => ?_)
  refine WT.m 0 rfl (WT.m 1 rfl (WT.m 2 rfl (WT.m 3 rfl (WT.m 4 rfl (WT.m 5 rfl (WT.p 6 rfl (fun w' => (run_indexAddr underlying26 sizeOf5 rfl rfl (by omega) (by omega))) (WT.l 7 rfl isAgg5 rfl ((h.cellsO (v := .slice (some ⟨bo, oo, none⟩) 4 co)).elem (i := m) (vs := [.int .u8 (((rev4 bs k).getD m 0).toNat : Int)]) (by omega) (getD_row (by rw [rev4_len]; omega)) 0 _ rfl) ?_)))))))
  refine WT.m 8 rfl (WT.m 9 rfl (WT.p 10 rfl (fun w' => (run_indexAddr underlying26 sizeOf5 rfl rfl (by omega) (by omega))) (WT.l 11 rfl isAgg5 rfl ((h.cellsO (v := .slice (some ⟨bo, oo, none⟩) 4 co)).elem (i := k) (vs := [.int .u8 (((rev4 bs k).getD k 0).toNat : Int)]) (by omega) (getD_row (by rw [rev4_len]; omega)) 0 _ rfl) (WT.p 12 rfl (fun w' => (run_indexAddr underlying26 sizeOf5 rfl rfl (by omega) (by omega))) (WT.e 13 [false, false] rfl (eff_storeOwn (v := .int .u8 (((rev4 bs k).getD m 0).toNat : Int)) (k := k * 1) h sizeOf5 rfl rfl rfl (by omega)) ?_)))))
  rintro _ w h
  refine ⟨trivial, ?_⟩
  refine WT.p 14 rfl (fun w' => (run_indexAddr underlying26 sizeOf5 rfl rfl (by omega) (by omega))) (WT.e 15 [] rfl (eff_storeOwn (v := .int .u8 (((rev4 bs k).getD k 0).toNat : Int)) (k := m * 1) h sizeOf5 rfl rfl rfl (by omega)) ?_)
  rintro _ w h
  rw [swB_val] at h
  refine ⟨trivial, ?_⟩
  refine WT.dn (W.region (WL.m (WL.v (run_incN rfl rfl (by omega)) (WL.m (WL.v (run_subN (m := m) (n := 1) rfl rfl (by omega) (by omega)) (WL.a (WL.a ?_)))))))
  refine WL.nil ?_
  have e3 : m = 3 - k := by omega
  have h : On W0 (Own 1 (.slice (some ⟨bo, oo, none⟩) 4 co) 4 (bytesV (swB (rev4 bs k) k (3 - k))) :: L) w := by rw [← e3]; exact h
  exact ⟨k + 1, ⟨by omega, m - 1, _, by omega, mkE_of ⟨rfl, rfl, rfl, trivial⟩, h⟩, by show 2 - (k + 1) < 2 - k; omega⟩
 refine W.exit (bodyQ.fall (bodyQ.r0 results74 ?_))
 have ob_ : k = 2 := by omega
 obtain rfl := ob_
 exact h
theorem plow_ok {ax : Option Addr} {cx : Nat} {bs : List UInt8} (h : On W0 L w) (C : Gives L (Bytes (.slice ax bs.length cx) bs)) : Calls Tryz.prog 40 #[.slice ax bs.length cx] w (Ret fun v w' => ∃ a, v = .slice a 4 4 ∧ On W0 (OwnB (.slice a 4 4) (ByM.four (crcS bs)) :: L) w') := by
 refine enter func40 rfl ntmps40 rfl ?_
 have hcl := crcS_lt bs
 have e0 : [] ++ be (crcS bs) 4 = be (crcS bs) 4 := List.nil_append _
 refine W.sr (WL.z (W.sr (WL.m (WL.e (eff_call call46 (sum_ok h C)) ?_))))
 rintro _ w ⟨rfl, h⟩
 refine WL.v (run_convIn underlying24 underlying27 rfl (by show (0 : Int) ≤ _; omega) (by show _ ≤ (18446744073709551615 : Int); omega)) (WL.e (eff_call call38 (bput_ok (ax := none) (cx := 0) (bs := []) (v := crcS bs) (n := 4) h Gives.nilB (by decide) (by decide) (by omega) (by decide))) ?_)
 rintro _ w ⟨a7, hv, h⟩
 rw [e0, be_length] at hv
 rw [e0] at h
 have h : On W0 (Own 1 (.slice a7 (be (crcS bs) 4).length (be (crcS bs) 4).length) (be (crcS bs) 4).length (bytesV (be (crcS bs) 4)) :: L) w := h
 rw [be_length] at h
 have oba_ := Own.addr h (by decide)
 obtain ⟨bo, oo, hao⟩ := oba_
 subst hao
 subst hv
 refine WL.z (W.sr (WL.m (WL.e (eff_call call74 (rev4_ok (bs := be (crcS bs) 4) (be_length _ _) h)) ?_)))
 rintro _ w h
 rw [four_rev hcl] at h
 refine WL.nil (W.sr (WL.m (WL.z (W.ret (bodyQ.r1 (v := .slice _ _ _) results40 rfl ?_)))))
 exact ⟨_, rfl, h⟩
theorem grow0_ok {n : Nat} (hn : n ≤ 1000000000) (h : On W0 L w) : Calls Tryz.prog 75 #[.slice none 0 0, .int .i64 (n : Int)] w (Ret fun v w' => ∃ a c, v = .slice a 0 c ∧ On W0 (Own 1 (.slice a 0 c) 0 [] :: L) w') := by
 refine enter func75 rfl ntmps75 rfl ?_
 have hmx := maxLen_eq
 refine W.sr (WL.z (W.seq (W.sr (WL.m ?_))))
 refine WL.v (run_lssF rfl rfl (by omega)) (WL.nil (W.cs (W.seq (W.sr (WL.m ?_)))))
 refine WL.m (WL.v (run_capSlice underlying26 rfl) (WL.m (WL.v (run_lenSlice underlying26 rfl) (WL.v (run_subN (m := 0) (n := 0) rfl rfl (by omega) (by omega)) (WL.v (run_subN (m := n) (n := 0) rfl rfl (by omega) (by omega)) (WL.z ?_))))))
 refine W.sr (WL.m (WL.v (run_gtr rfl rfl) (WL.nil ?_)))
 refine W.condIf rfl (fun c7 => ?_) (fun c7 => ?_)
 ·
  refine W.region (WL.m (WL.m (WL.v (run_capSlice underlying26 rfl) (WL.v (run_cutH (n := 0) (c := 0) (h := 0) underlying26 sizeOf5 rfl rfl (by omega)) (WL.m (WL.e (eff_appZeros (size := 1) (i := 0) (k := n) (cap := 0) (ao := none) (xs := []) (bytes := 1) h (h.reads Gives.nilC) rfl rfl (by omega) (by omega) underlying26 underlying3 rfl rfl (by omega) rfl rfl rfl (by omega) (by omega)) ?_))))))
  rintro _ w ⟨b22, c22, rfl, h⟩
  refine WL.m (WL.v (run_lenSlice underlying26 rfl) (WL.v (run_cutH (h := 0) underlying26 sizeOf5 rfl rfl (by omega)) (WL.z (W.sr (WL.m ?_)))))
  refine WL.z (W.ret (bodyQ.r1 (v := .slice _ _ _) results75 rfl ?_))
  have h := Own.front h (k := 0) (by omega)
  have h : On W0 (Own 1 (.slice (some ⟨b22, 0, none⟩) 0 c22) 0 [] :: L) w := h
  exact ⟨_, _, rfl, h.to⟩
 refine W.skip (W.sr (WL.m (WL.z (W.ret (bodyQ.r1 (v := .slice _ _ _) results75 rfl ?_)))))
 exact ⟨none, 0, rfl, h.ownEmpty 1 none⟩
theorem cat_ok {ar : Option Addr} {cr : Nat} {rows : List BX} (hl : (rows.flatMap BX.b).length ≤ 1000000000) (h : On W0 L w) (C : Gives L (Cells 1 (.slice ar rows.length cr) rows.length (rows.map BX.v))) (H : ∀ x ∈ rows, Gives L (Bytes x.v x.b)) : Calls Tryz.prog 42 #[.slice ar rows.length cr] w (Ret fun v w' => ∃ a c, v = .slice a (rows.flatMap BX.b).length c ∧ On W0 (OwnB (.slice a (rows.flatMap BX.b).length c) (rows.flatMap BX.b) :: L) w') := by
 refine enter func42 rfl ntmps42 rfl ?_
 have hmx := maxLen_eq
 have hbd := (h.readsTo C).bounds
 obtain ⟨hbc, hbm⟩ := hbd
 have hcl := catK_le rows
 refine W.sr (WL.z (W.sr (WL.z ?_)))
 refine W.seq (W.sr (WL.m (WL.v (run_lenSlice underlying64 rfl) (WL.m (WL.nil (W.block ?_))))))
 refine W.loop (fun (k : Nat) env w => k ≤ rows.length ∧ ∃ (j : Env), env = mkE j [(0, .slice ar rows.length cr), (3, .int .i64 ((catK rows k).length : Int)), (9, .slice ar rows.length cr), (10, .int .i64 (rows.length : Int)), (11, .int .i64 (k : Int))] ∧ On W0 L w) (fun k => rows.length - k) (0) ?_ ?_
 · exact ⟨Nat.zero_le _, _, mkE_of ⟨rfl, rfl, rfl, rfl, rfl, trivial⟩, h⟩
 rintro k env w ⟨hk, j, rfl, h⟩
 have hck := hcl k
 refine W.sr (WL.v (run_lss rfl rfl) (WL.nil (W.seq ?_)))
 refine W.condIf rfl (fun c6 => ?_) (fun c6 => ?_)
 ·
  refine W.skip (W.seq (W.block (W.seq ?_)))
  have hkl : k < rows.length := by omega
  have ob_ : ∃ x, rows[k]? = some x := ⟨rows[k]'hkl, by simp⟩
  obtain ⟨⟨ax, cx, xb⟩, hx⟩ := ob_
  have hs := congrArg List.length (catK_succ hx)
  rw [List.length_append] at hs
  have hs : (catK rows (k + 1)).length = (catK rows k).length + xb.length := hs
  have hck1 := hcl (k + 1)
  have ad_ := (h.readsTo C).addr (by omega)
  obtain ⟨bq, oq, hal⟩ := ad_
  subst hal
  refine W.region (WL.v (run_indexAddr underlying64 sizeOf26 rfl rfl (by omega) (by omega)) (WL.l isAgg26 rfl ((h.readsTo C).elem (i := k) (vs := [.slice ax xb.length cx]) (by omega) (row_v hx) 0 _ rfl) (WL.z (W.sr (WL.m ?_)))))
  refine WL.m (WL.v (run_lenSlice underlying26 rfl) (WL.v (run_addN (m := (catK rows k).length) (n := xb.length) rfl rfl (by omega)) (WL.z (W.sr (WL.m ?_)))))
  refine WL.v (run_lssF rfl rfl (by omega)) (WL.nil (W.cs (W.region (WL.v (run_incN rfl rfl (by omega)) (WL.m (WL.nil ?_))))))
  exact ⟨k + 1, ⟨by omega, _, mkE_of ⟨rfl, congrArg (fun q : Nat => Value.int .i64 (q : Int)) hs.symm, rfl, rfl, rfl, trivial⟩, h⟩, by show rows.length - (k + 1) < rows.length - k; omega⟩
 refine W.exit (W.seq ?_)
 have ek : k = rows.length := by omega
 subst ek
 refine W.region (WL.m (WL.e (eff_call call75 (grow0_ok (n := (catK rows rows.length).length) (by omega) h)) ?_))
 rintro _ w ⟨a24, c24, rfl, h⟩
 refine WL.z (W.seq (W.sr (WL.m (WL.v (run_lenSlice underlying64 rfl) (WL.m ?_)))))
 refine WL.nil (W.block ?_)
 refine W.loop (fun (k : Nat) env w => k ≤ rows.length ∧ ∃ (j : Env) (ao : Option Addr) (co : Nat), env = mkE j [(6, .slice ao (catK rows k).length co), (25, .slice ar rows.length cr), (26, .int .i64 (rows.length : Int)), (27, .int .i64 (k : Int))] ∧ On W0 (OwnB (.slice ao (catK rows k).length co) (catK rows k) :: L) w) (fun k => rows.length - k) (0) ?_ ?_
 · exact ⟨Nat.zero_le _, _, a24, c24, mkE_of ⟨rfl, rfl, rfl, rfl, trivial⟩, h⟩
 rintro k env w ⟨hk, j, ao, co, rfl, h⟩
 have hck := hcl k
 refine W.sr (WL.v (run_lss rfl rfl) (WL.nil (W.seq ?_)))
 refine W.condIf rfl (fun c22 => ?_) (fun c22 => ?_)
 ·
  refine W.skip (W.seq (W.block (W.seq ?_)))
  have hkl : k < rows.length := by omega
  have ob_ : ∃ x, rows[k]? = some x := ⟨rows[k]'hkl, by simp⟩
  obtain ⟨⟨ax, cx, xb⟩, hx⟩ := ob_
  have hs := congrArg List.length (catK_succ hx)
  rw [List.length_append] at hs
  have hs : (catK rows (k + 1)).length = (catK rows k).length + xb.length := hs
  have hck1 := hcl (k + 1)
  have gx : Gives L (Bytes (.slice ax xb.length cx) xb) := H _ (List.mem_of_getElem? hx)
  have ad_ := (h.readsTo C).addr (by omega)
  obtain ⟨bq, oq, hal⟩ := ad_
  subst hal
  refine W.region (WL.v (run_indexAddr underlying64 sizeOf26 rfl rfl (by omega) (by omega)) (WL.l isAgg26 rfl ((h.readsTo C).elem (i := k) (vs := [.slice ax xb.length cx]) (by omega) (row_v hx) 0 _ rfl) (WL.z (W.region (WL.m (WL.m ?_))))))
  refine WL.e (eff_app (c2 := cx) (bytes := 1) h rfl rfl (h.readsTo gx) underlying26 rfl rfl rfl rfl rfl (by omega) (by omega) bytes_one) ?_
  rintro _ w ⟨a33, c33, rfl, h⟩
  refine WL.z (W.region (WL.v (run_incN rfl rfl (by omega)) (WL.m (WL.nil ?_))))
  have e3 : bytesV (catK rows k) ++ bytesV xb = bytesV (catK rows (k + 1)) := by rw [catK_succ hx]; simp [bytesV]
  rw [e3, ← hs] at h
  exact ⟨k + 1, ⟨by omega, _, a33, c33, mkE_of ⟨congrArg (fun q : Nat => Value.slice a33 q c33) hs.symm, rfl, rfl, rfl, trivial⟩, h.to⟩, by show rows.length - (k + 1) < rows.length - k; omega⟩
 refine W.exit (W.sr (WL.m (WL.z (W.ret (bodyQ.r1 (v := .slice _ _ _) results42 rfl ?_)))))
 have ob_ : k = rows.length := by omega
 obtain rfl := ob_
 have e : catK rows rows.length = rows.flatMap BX.b := by unfold catK; rw [List.take_length]
 rw [e] at h ⊢
 exact ⟨ao, co, rfl, h⟩
end Go.Proofs.YtjfmjbmkkpkppaaGreatDoor
