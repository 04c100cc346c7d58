/-
  A unit: a table read: the contracts. Lines of walks printed by a program of the prover's.
-/
import Derived.Test.YtjbgiingimhnnaaGreatUnitBytesFQ3
import Derived.Test.YtjbgiingimhnnaaGreatUnitBytesFQ1
namespace Go.Proofs.YtjbgiingimhnnaaGreat
open Go.Proofs.Tryz
open Go Go.Sl Go.Sl.BitM Go.Sl.SpM Go.Sl.RsM Go.Sl.ByM Go.Sl.UnM
set_option linter.unusedVariables false
set_option linter.unusedSimpArgs false
set_option maxHeartbeats 1000000
set_option maxRecDepth 8000
variable {W0 w : World} {L F : List HProp}
theorem rdecode_ok [tF : To L F] {cb : Nat} {ab : Option Addr} {b : List UInt8} (hb : b.length ≤ 100000) (h : On W0 L w) (C : Gives F (Bytes (.slice ab b.length cb) b)) : Calls Tryz.prog 21 #[.slice ab b.length cb] w (Ret fun v w' => (∃ t bt, decT b = some t ∧ v = .tuple #[.pointer (some ⟨bt, 0, none⟩), .int .i64 0] ∧ On W0 (blk bt t.cells 113 :: L) w') ∨ (decT b = none ∧ v = .tuple #[.pointer none, .int .i64 2] ∧ On W0 L w')) := by
  refine enter func21 rfl ntmps21 rfl ?_
  have hmx := maxLen_eq
  refine W.seq (W.region (WL.val run_assign rfl rfl (WL.val run_assign rfl rfl (WL.nil (W.seq (W.seq (W.region ?_)))))))
  refine WL.val run_move rfl rfl (WL.val (run_lenSlice underlying22 rfl) rfl rfl (WL.val (run_neq rfl rfl) rfl rfl (WL.nil ?_)))
  refine W.condIf rfl (fun c2 => ?_) (fun c2 => ?_)
  ·
   refine W.seq (W.region (WL.val run_assign rfl rfl (WL.val run_assign rfl rfl (WL.nil (W.ret (bodyQ.r2 (v1 := .pointer _) (v2 := .int .i64 _) results21 rfl rfl ?_))))))
   exact .inr ⟨by unfold decT; rw [if_neg (fun hh => c2 (by omega))], rfl, h⟩
  refine W.skip (W.seq ?_)
  have hb70 : b.length = 70 := by omega
  have ob_ : ∃ x, b[68]? = some x := ⟨b[68]'(by omega), by simp⟩
  obtain ⟨x68, h68⟩ := ob_
  have ob_ : ∃ x, b[69]? = some x := ⟨b[69]'(by omega), by simp⟩
  obtain ⟨x69, h69⟩ := ob_
  have e68 : b.getD 68 0 = x68 := by rw [List.getD_eq_getElem?_getD, h68]; rfl
  have e69 : b.getD 69 0 = x69 := by rw [List.getD_eq_getElem?_getD, h69]; rfl
  have t68 := x68.toNat_lt
  have t69 := x69.toNat_lt
  have hgl := gen_lt b
  have ob_ := (h.readsTo C).addr (by omega)
  obtain ⟨ba, oa, haa⟩ := ob_
  subst haa
  refine W.region (WL.eff (eff_call call33 (rnew_ok h)) rfl rfl ?_)
  rintro _ w ⟨b4, rfl, h⟩
  refine WL.val run_assign rfl rfl (WL.nil (W.seq (W.region (WL.val run_move rfl rfl (WL.eff (eff_call call52 (bget_ok (at_ := ((0 : Nat) : Int)) (n := ((4 : Nat) : Int)) (bs := b) h (Gives.to C))) rfl rfl ?_)))))
  rintro _ w hg
  rcases hg with ⟨hok, rfl, h⟩ | ⟨hno, _, _⟩
  rotate_left
  · exact absurd (show _ by omega) hno
  refine WL.val run_move rfl rfl (WL.val (run_extract rfl rfl) rfl rfl (WL.val (run_extract rfl rfl) rfl rfl (WL.val run_assign rfl rfl (WL.val run_assign rfl rfl (WL.nil (W.seq (W.region ?_)))))))
  refine WL.val run_move rfl rfl (WL.val run_move rfl rfl (WL.val (run_convIn (n := ((beV (b.take 4) : Nat) : Int)) underlying23 underlying111 rfl (by show (0 : Int) ≤ _; omega) (by show _ ≤ (4294967295 : Int); omega)) rfl rfl (WL.val (run_nilCheck rfl) rfl rfl (WL.val (run_fieldAddr 10 underlying113 rfl sizeOf111 rfl rfl) rfl rfl (WL.eff (eff_store (v := .int .u32 ((beV (b.take 4) : Nat) : Int)) h sizeOf111 rfl rfl rfl rfl rfl) rfl rfl ?_)))))
  rintro _ w h
  have h : On W0 (blk b4 (tK b 0).cells 113 :: _) w := h
  refine WL.nil (W.seq (W.seq (W.region (WL.val run_move rfl rfl (WL.nil (W.block ?_))))))
  refine W.loop (fun (k : Nat) env w => k ≤ 8 ∧ ∃ j, env = mkE j [(0, .slice (some ⟨ba, oa, none⟩) b.length cb), (4, .pointer (some ⟨b4, 0, none⟩)), (23, .int .i64 (k : Int))] ∧ On W0 (blk b4 (tK b k).cells 113 :: L) w) (fun k => 8 - k) (0) ?_ ?_
  · exact ⟨Nat.zero_le _, _, mkE_of ⟨rfl, rfl, rfl, trivial⟩, h.to⟩
  rintro k env w ⟨hk8, j, rfl, h⟩
  refine W.seq (W.region (WL.val (run_lss rfl rfl) rfl rfl (WL.nil (W.seq ?_))))
  refine W.condIf rfl (fun c13 => ?_) (fun c13 => ?_)
  ·
   refine W.skip (W.seq ?_)
   have hk7 : k < 8 := by omega
   refine W.block (W.seq (W.region (WL.val run_move rfl rfl (WL.val run_assign rfl rfl (WL.nil ?_)))))
   refine W.draw Tryz.follows h (fun w h => ?_)
   refine WT.pure 0 rfl (by kernel_rfl) (fun w' => run_move) rfl rfl (WT.pure 1 rfl (by kernel_rfl) (fun w' => run_move) rfl rfl (WT.pure 2 rfl (by kernel_rfl) (fun w' => run_move) rfl rfl (WT.pure 3 rfl (by kernel_rfl) (fun w' => run_move) rfl rfl (WT.pure 4 rfl (by kernel_rfl) (fun w' => (run_mulN (m := 8) (n := k) rfl rfl (by omega))) rfl rfl (WT.pure 5 rfl (by kernel_rfl) (fun w' => (run_addN (m := 4) (n := 8 * k) rfl rfl (by omega))) rfl rfl (WT.pure 10 rfl (by kernel_rfl) (fun w' => (run_nilCheck rfl)) rfl rfl (WT.pure 11 rfl (by kernel_rfl) (fun w' => (run_fieldAddr 0 underlying113 rfl sizeOf85 rfl rfl)) rfl rfl ?_)))))))
   refine WT.eff 6 [] rfl (by kernel_rfl) (by kernel_rfl) (eff_call call52 (bget_ok (at_ := ((4 + 8 * k : Nat) : Int)) (n := ((8 : Nat) : Int)) (bs := b) h (Gives.to C))) rfl rfl ?_
   rintro _ w hg
   rcases hg with ⟨hok, rfl, h⟩ | ⟨hno, _, _⟩
   rotate_left
   · exact absurd (show _ by omega) hno
   refine ⟨trivial, ?_⟩
   refine WT.pure 7 rfl (by kernel_rfl) (fun w' => run_move) rfl rfl (WT.pure 8 rfl (by kernel_rfl) (fun w' => (run_extract rfl rfl)) rfl rfl (WT.pure 9 rfl (by kernel_rfl) (fun w' => (run_extract rfl rfl)) rfl rfl (WT.pure 12 rfl (by kernel_rfl) (fun w' => (run_indexAddrArr underlying85 sizeOf23 rfl rfl (by omega) (by omega))) rfl rfl (WT.eff 13 [] rfl (by kernel_rfl) (by kernel_rfl) (eff_store (v := .int .u64 (kAt b k)) h sizeOf23 rfl rfl rfl (cells_lt hk7) (free0 _)) rfl rfl ?_))))
   rintro _ w h
   rw [cells_set hk7, tK_put] at h
   refine ⟨trivial, ?_⟩
   refine WT.done (by kernel_rfl) (W.region (WL.val (run_incN rfl rfl (by omega)) rfl rfl (WL.val run_move rfl rfl (WL.nil ?_))))
   exact ⟨k + 1, ⟨by omega, _, mkE_of ⟨rfl, rfl, rfl, trivial⟩, h.to⟩, by show 8 - (k + 1) < 8 - k; omega⟩
  refine W.exit (W.seq (W.seq ?_))
  have ob_ : k = 8 := by omega
  obtain rfl := ob_
  refine W.region (WL.val run_move rfl rfl (WL.val run_move rfl rfl (WL.val (run_lenSlice underlying22 rfl) rfl rfl (WL.val (run_subNV (m := b.length) (n := 2) (r := 68) rfl rfl (by omega) (by omega) (by omega)) rfl rfl (WL.val (run_indexAddr underlying22 sizeOf5 rfl rfl (by omega) (by omega)) rfl rfl (WL.val (run_load1 isAgg5 rfl ((h.readsTo C).elem (i := 68) (vs := [.int .u8 (x68.toNat : Int)]) (by omega) (bytes_row h68) 0 _ rfl)) rfl rfl (WL.val (run_convInt64 underlying5 underlying3 rfl (by omega) (by omega)) rfl rfl ?_)))))))
  refine WL.val run_assign rfl rfl (WL.nil (W.seq (W.region (WL.val run_move rfl rfl ?_))))
  refine WL.dec (run_lss rfl rfl) rfl rfl (fun c48 => ?_) (fun c48 => ?_)
  ·
   refine WL.val run_move rfl rfl (WL.val run_move rfl rfl (WL.val run_move rfl rfl (WL.val (run_nilCheck rfl) rfl rfl (WL.val (run_fieldAddr 0 underlying113 rfl sizeOf85 rfl rfl) rfl rfl (WL.val (run_indexAddrArr underlying85 sizeOf23 rfl rfl (by omega) (by omega)) rfl rfl (WL.val (run_load1 isAgg23 rfl (h.cellB (cells_at (i := x68.toNat) (by omega)))) rfl rfl ?_))))))
   refine WL.dec (run_neq rfl rfl) rfl rfl (fun c56 => ?_) (fun c56 => ?_)
   ·
    refine WL.val (run_pickT rfl) rfl rfl (WL.val run_move rfl rfl (WL.val run_move rfl rfl (WL.val run_move rfl rfl (WL.val (run_lenSlice underlying22 rfl) rfl rfl (WL.val (run_subNV (m := b.length) (n := 1) (r := 69) rfl rfl (by omega) (by omega) (by omega)) rfl rfl (WL.val (run_indexAddr underlying22 sizeOf5 rfl rfl (by omega) (by omega)) rfl rfl (WL.val (run_load1 isAgg5 rfl ((h.readsTo C).elem (i := 69) (vs := [.int .u8 (x69.toNat : Int)]) (by omega) (bytes_row h69) 0 _ rfl)) rfl rfl ?_)))))))
    refine WL.val (run_convInt64 underlying5 underlying3 rfl (by omega) (by omega)) rfl rfl (WL.eff (eff_call call56 (typed_ok h)) rfl rfl ?_)
    rintro _ w ⟨hv, h⟩
    have hcs := Bool.eq_false_or_eq_true (typedB ((x69.toNat : Nat) : Int))
    rcases hcs with hty | hty <;> (rw [hty] at hv; subst hv)
    ·
     refine WL.val (run_pickT rfl) rfl rfl (WL.nil (W.condT rfl (W.region (WL.val run_move rfl rfl (WL.val run_move rfl rfl (WL.val run_move rfl rfl (WL.val run_move rfl rfl ?_)))))))
     refine WL.val run_move rfl rfl (WL.val (run_lenSlice underlying22 rfl) rfl rfl (WL.val (run_subNV (m := b.length) (n := 1) (r := 69) rfl rfl (by omega) (by omega) (by omega)) rfl rfl (WL.val (run_indexAddr underlying22 sizeOf5 rfl rfl (by omega) (by omega)) rfl rfl (WL.val (run_load1 isAgg5 rfl ((h.readsTo C).elem (i := 69) (vs := [.int .u8 (x69.toNat : Int)]) (by omega) (bytes_row h69) 0 _ rfl)) rfl rfl (WL.val (run_convInt64 underlying5 underlying3 rfl (by omega) (by omega)) rfl rfl (WL.val (run_nilCheck rfl) rfl rfl (WL.val (run_fieldAddr 8 underlying113 rfl sizeOf3 rfl rfl) rfl rfl ?_)))))))
     refine WL.eff (eff_store (v := .int .i64 _) h sizeOf3 rfl rfl rfl rfl rfl) rfl rfl ?_
     rintro _ w h
     try simp only [Nat.zero_add, Nat.add_zero, List.set_cons_zero, List.set_cons_succ] at h
     refine WL.val (run_nilCheck rfl) rfl rfl (WL.val (run_fieldAddr 9 underlying113 rfl sizeOf3 rfl rfl) rfl rfl (WL.eff (eff_store (v := .int .i64 _) h sizeOf3 rfl rfl rfl rfl rfl) rfl rfl ?_))
     rintro _ w h
     try simp only [Nat.zero_add, Nat.add_zero, List.set_cons_zero, List.set_cons_succ] at h
     refine WL.nil (W.seq (W.seq ?_))
     have hdec : decT0 b = (tK b 8).take ((x68.toNat : Nat) : Int) ((x69.toNat : Nat) : Int) := by unfold decT0; rw [e68, e69, if_pos ⟨by omega, c56, hty⟩]
     have h : On W0 (blk b4 ((tK b 8).take ((x68.toNat : Nat) : Int) ((x69.toNat : Nat) : Int)).cells 113 :: _) w := h
     rw [← hdec] at h
     refine W.region (WL.val run_move rfl rfl (WL.eff (eff_call call49 (rencode_ok (b := b4) (t := decT0 b) (decT0_ok b) (h.fetch (blk b4 (decT0 b).cells 113)))) rfl rfl ?_))
     rintro _ w ⟨a83, c83, rfl, h⟩
     refine WL.val run_move rfl rfl (WL.eff (eff_call call24 (bequal_ok (bs := encT (decT0 b)) (cs := b) h (Gives.ownO (v := .slice a83 (encT (decT0 b)).length c83)) (Gives.to C))) rfl rfl ?_)
     rintro _ w ⟨hv, h⟩
     have hcs := Bool.eq_false_or_eq_true (decide (encT (decT0 b) = b))
     rcases hcs with heq | heq <;> (rw [heq] at hv; subst hv)
     ·
      refine WL.val (run_not rfl) rfl rfl (WL.nil (W.condF rfl (W.skip (W.seq (W.region (WL.val run_move rfl rfl (WL.val run_assign rfl rfl ?_)))))))
      refine WL.val run_assign rfl rfl (WL.nil (W.ret (bodyQ.r2 (v1 := .pointer _) (v2 := .int .i64 _) results21 rfl rfl ?_)))
      have he := of_decide_eq_true heq
      exact .inl ⟨decT0 b, b4, by unfold decT; rw [if_pos ⟨hb70, he⟩], rfl, h.to⟩
     refine WL.val (run_not rfl) rfl rfl (WL.nil (W.condT rfl (W.seq (W.region (WL.val run_assign rfl rfl (WL.val run_assign rfl rfl (WL.nil ?_)))))))
     refine W.ret (bodyQ.r2 (v1 := .pointer _) (v2 := .int .i64 _) results21 rfl rfl ?_)
     have he := of_decide_eq_false heq
     exact .inr ⟨by unfold decT; rw [if_neg (fun hh => he hh.2)], rfl, h.to⟩
    refine WL.val (run_pickT rfl) rfl rfl (WL.nil (W.condF rfl (W.skip (W.seq (W.seq ?_)))))
    have hdec : decT0 b = tK b 8 := by unfold decT0; rw [e68, e69, if_neg (fun hh => by rw [hty] at hh; cases hh.2.2)]
    rw [← hdec] at h
    refine W.region (WL.val run_move rfl rfl (WL.eff (eff_call call49 (rencode_ok (b := b4) (t := decT0 b) (decT0_ok b) (h.fetch (blk b4 (decT0 b).cells 113)))) rfl rfl ?_))
    rintro _ w ⟨a83, c83, rfl, h⟩
    refine WL.val run_move rfl rfl (WL.eff (eff_call call24 (bequal_ok (bs := encT (decT0 b)) (cs := b) h (Gives.ownO (v := .slice a83 (encT (decT0 b)).length c83)) (Gives.to C))) rfl rfl ?_)
    rintro _ w ⟨hv, h⟩
    have hcs := Bool.eq_false_or_eq_true (decide (encT (decT0 b) = b))
    rcases hcs with heq | heq <;> (rw [heq] at hv; subst hv)
    ·
     refine WL.val (run_not rfl) rfl rfl (WL.nil (W.condF rfl (W.skip (W.seq (W.region (WL.val run_move rfl rfl (WL.val run_assign rfl rfl ?_)))))))
     refine WL.val run_assign rfl rfl (WL.nil (W.ret (bodyQ.r2 (v1 := .pointer _) (v2 := .int .i64 _) results21 rfl rfl ?_)))
     have he := of_decide_eq_true heq
     exact .inl ⟨decT0 b, b4, by unfold decT; rw [if_pos ⟨hb70, he⟩], rfl, h.to⟩
    refine WL.val (run_not rfl) rfl rfl (WL.nil (W.condT rfl (W.seq (W.region (WL.val run_assign rfl rfl (WL.val run_assign rfl rfl (WL.nil ?_)))))))
    refine W.ret (bodyQ.r2 (v1 := .pointer _) (v2 := .int .i64 _) results21 rfl rfl ?_)
    have he := of_decide_eq_false heq
    exact .inr ⟨by unfold decT; rw [if_neg (fun hh => he hh.2)], rfl, h.to⟩
   refine WL.val (run_pickT rfl) rfl rfl (WL.val run_move rfl rfl (WL.skip rfl rfl (WL.skip rfl rfl (WL.skip rfl rfl (WL.skip rfl rfl (WL.skip rfl rfl (WL.skip rfl rfl ?_)))))))
   refine WL.skip rfl rfl (WL.skip rfl rfl (WL.val (run_pickF rfl) rfl rfl (WL.nil (W.condF rfl (W.skip (W.seq (W.seq ?_)))))))
   have hdec : decT0 b = tK b 8 := by unfold decT0; rw [e68, e69, if_neg (fun hh => c56 hh.2.1)]
   rw [← hdec] at h
   refine W.region (WL.val run_move rfl rfl (WL.eff (eff_call call49 (rencode_ok (b := b4) (t := decT0 b) (decT0_ok b) (h.fetch (blk b4 (decT0 b).cells 113)))) rfl rfl ?_))
   rintro _ w ⟨a83, c83, rfl, h⟩
   refine WL.val run_move rfl rfl (WL.eff (eff_call call24 (bequal_ok (bs := encT (decT0 b)) (cs := b) h (Gives.ownO (v := .slice a83 (encT (decT0 b)).length c83)) (Gives.to C))) rfl rfl ?_)
   rintro _ w ⟨hv, h⟩
   have hcs := Bool.eq_false_or_eq_true (decide (encT (decT0 b) = b))
   rcases hcs with heq | heq <;> (rw [heq] at hv; subst hv)
   ·
    refine WL.val (run_not rfl) rfl rfl (WL.nil (W.condF rfl (W.skip (W.seq (W.region (WL.val run_move rfl rfl (WL.val run_assign rfl rfl ?_)))))))
    refine WL.val run_assign rfl rfl (WL.nil (W.ret (bodyQ.r2 (v1 := .pointer _) (v2 := .int .i64 _) results21 rfl rfl ?_)))
    have he := of_decide_eq_true heq
    exact .inl ⟨decT0 b, b4, by unfold decT; rw [if_pos ⟨hb70, he⟩], rfl, h.to⟩
   refine WL.val (run_not rfl) rfl rfl (WL.nil (W.condT rfl (W.seq (W.region (WL.val run_assign rfl rfl (WL.val run_assign rfl rfl (WL.nil ?_)))))))
   refine W.ret (bodyQ.r2 (v1 := .pointer _) (v2 := .int .i64 _) results21 rfl rfl ?_)
   have he := of_decide_eq_false heq
   exact .inr ⟨by unfold decT; rw [if_neg (fun hh => he hh.2)], rfl, h.to⟩
  refine WL.val run_move rfl rfl (WL.skip rfl rfl (WL.skip rfl rfl (WL.skip rfl rfl (WL.skip rfl rfl (WL.skip rfl rfl (WL.skip rfl rfl (WL.skip rfl rfl ?_)))))))
  refine WL.val (run_pickF rfl) rfl rfl (WL.val run_move rfl rfl (WL.skip rfl rfl (WL.skip rfl rfl (WL.skip rfl rfl (WL.skip rfl rfl (WL.skip rfl rfl (WL.skip rfl rfl ?_)))))))
  refine WL.skip rfl rfl (WL.skip rfl rfl (WL.val (run_pickF rfl) rfl rfl (WL.nil (W.condF rfl (W.skip (W.seq (W.seq ?_)))))))
  have hdec : decT0 b = tK b 8 := by unfold decT0; rw [e68, e69, if_neg (fun hh => c48 (by omega))]
  rw [← hdec] at h
  refine W.region (WL.val run_move rfl rfl (WL.eff (eff_call call49 (rencode_ok (b := b4) (t := decT0 b) (decT0_ok b) (h.fetch (blk b4 (decT0 b).cells 113)))) rfl rfl ?_))
  rintro _ w ⟨a83, c83, rfl, h⟩
  refine WL.val run_move rfl rfl (WL.eff (eff_call call24 (bequal_ok (bs := encT (decT0 b)) (cs := b) h (Gives.ownO (v := .slice a83 (encT (decT0 b)).length c83)) (Gives.to C))) rfl rfl ?_)
  rintro _ w ⟨hv, h⟩
  have hcs := Bool.eq_false_or_eq_true (decide (encT (decT0 b) = b))
  rcases hcs with heq | heq <;> (rw [heq] at hv; subst hv)
  ·
   refine WL.val (run_not rfl) rfl rfl (WL.nil (W.condF rfl (W.skip (W.seq (W.region (WL.val run_move rfl rfl (WL.val run_assign rfl rfl ?_)))))))
   refine WL.val run_assign rfl rfl (WL.nil (W.ret (bodyQ.r2 (v1 := .pointer _) (v2 := .int .i64 _) results21 rfl rfl ?_)))
   have he := of_decide_eq_true heq
   exact .inl ⟨decT0 b, b4, by unfold decT; rw [if_pos ⟨hb70, he⟩], rfl, h.to⟩
  refine WL.val (run_not rfl) rfl rfl (WL.nil (W.condT rfl (W.seq (W.region (WL.val run_assign rfl rfl (WL.val run_assign rfl rfl (WL.nil ?_)))))))
  refine W.ret (bodyQ.r2 (v1 := .pointer _) (v2 := .int .i64 _) results21 rfl rfl ?_)
  have he := of_decide_eq_false heq
  exact .inr ⟨by unfold decT; rw [if_neg (fun hh => he hh.2)], rfl, h.to⟩
end Go.Proofs.YtjbgiingimhnnaaGreat
/-
  A unit: blocks read: the contracts. Lines of walks printed by a program of the prover's.
-/
namespace Go.Proofs.YtjbgiingimhnnaaGreat
open Go.Proofs.Tryz
open Go Go.Sl Go.Sl.BitM Go.Sl.SpM Go.Sl.RsM Go.Sl.ByM Go.Sl.UnM
set_option linter.unusedVariables false
set_option linter.unusedSimpArgs false
set_option maxHeartbeats 1000000
set_option maxRecDepth 8000
variable {W0 w : World} {L F : List HProp}
theorem sdecode_ok [tF : To L F] {cb : Nat} {ab : Option Addr} {b : List UInt8} (hb : b.length ≤ 100000) (h : On W0 L w) (C : Gives F (Bytes (.slice ab b.length cb) b)) : Calls Tryz.prog 19 #[.slice ab b.length cb] w (Ret fun v w' => (∃ s bs, decS b = some s ∧ capS s ∧ v = .tuple #[.pointer (some ⟨bs, 0, none⟩), .int .i64 0] ∧ On W0 (SpP 105 bs s :: L) w') ∨ (decS b = none ∧ v = .tuple #[.pointer none, .int .i64 2] ∧ On W0 L w')) := by
  refine enter func19 rfl ntmps19 rfl ?_
  have hmx := maxLen_eq
  have hnl := nB_lt b
  have ob_ := Cells.bounds (h.readsTo C)
  obtain ⟨hbc, hbm⟩ := ob_
  refine W.seq (W.region (WL.val run_assign rfl rfl (WL.val run_assign rfl rfl (WL.nil (W.seq (W.region (WL.val run_move rfl rfl ?_)))))))
  refine WL.eff (eff_call call52 (bget_ok (at_ := ((0 : Nat) : Int)) (n := ((2 : Nat) : Int)) (bs := b) h (Gives.to C))) rfl rfl ?_
  rintro v13 w hg
  have hg2 : ∃ okk : Bool, v13 = .tuple #[.int .u64 ((nB b : Nat) : Int), .bool okk] ∧ On W0 L w := by
    rcases hg with ⟨hok, hv, h⟩ | ⟨hno, hv, h⟩
    · have e : nB b = beV ((b.drop ((0 : Nat) : Int).toNat).take ((2 : Nat) : Int).toNat) := by unfold nB; rw [if_pos (by omega)]; simp
      exact ⟨true, by rw [hv, e], h⟩
    · have e : nB b = 0 := by unfold nB; rw [if_neg (by omega)]
      exact ⟨false, by rw [hv, e]; rfl, h⟩
  obtain ⟨okk, hv13, h⟩ := hg2
  subst hv13
  refine WL.val run_move rfl rfl (WL.val (run_extract rfl rfl) rfl rfl (WL.val (run_extract rfl rfl) rfl rfl (WL.val run_assign rfl rfl (WL.val run_assign rfl rfl (WL.nil (W.seq (W.region ?_)))))))
  refine WL.val run_move rfl rfl (WL.val (run_convInt64 underlying23 underlying3 rfl (by omega) (by omega)) rfl rfl (WL.eff (eff_call call32 (snew_ok (n := ((nB b : Nat) : Int)) h)) rfl rfl ?_))
  rintro _ w hv
  rcases hv with ⟨N, hN, h1N, hN2, bs, rfl, h⟩ | ⟨hno, rfl, h⟩
  ·
   have hNn : N = nB b := by omega
   subst hNn
   have ob_ := openS h
   obtain ⟨gd, od, cd, am, cm, hw, h⟩ := ob_
   have ob_ := Own.bounds h.p1
   obtain ⟨hdc, hdm⟩ := ob_
   have hml : (newS (nB b)).m.length = (nB b + 7) / 8 := List.length_replicate
   have ob2_ := Own.addr h.p2 (by rw [hml]; omega)
   obtain ⟨gm, om, ham⟩ := ob2_
   subst ham
   refine WL.val run_move rfl rfl (WL.val (run_extract rfl rfl) rfl rfl (WL.val (run_extract rfl rfl) rfl rfl (WL.val run_assign rfl rfl (WL.val run_assign rfl rfl (WL.nil (W.seq (W.seq ?_)))))))
   refine W.region (WL.val run_move rfl rfl (WL.val (run_neqF rfl rfl (by decide)) rfl rfl (WL.val run_move rfl rfl (WL.val run_move rfl rfl (WL.val (run_lenSlice underlying22 rfl) rfl rfl (WL.val run_move rfl rfl (WL.val (run_nilCheck rfl) rfl rfl ?_)))))))
   refine WL.val (run_fieldAddr 2 underlying105 rfl sizeOf103 rfl rfl) rfl rfl (WL.val (run_load1 isAgg103 rfl (h.cellB rfl)) rfl rfl (WL.val (run_lenSlice underlying103 rfl) rfl rfl (WL.val (run_addN (m := 2) (n := (newS (nB b)).m.length) rfl rfl (by omega)) rfl rfl ?_)))
   refine WL.dec (run_lss rfl rfl) rfl rfl (fun c33 => ?_) (fun c33 => ?_)
   ·
    refine WL.val (run_pickF rfl) rfl rfl (WL.nil (W.condT rfl (W.seq (W.region (WL.val run_assign rfl rfl (WL.val run_assign rfl rfl (WL.nil ?_)))))))
    refine W.ret (bodyQ.r2 (v1 := .pointer _) (v2 := .int .i64 _) results19 rfl rfl ?_)
    exact .inr ⟨by unfold decS decS0; rw [if_neg (fun hh => by have := hh.2; rw [hml] at c33; omega)]; rfl, rfl, h.to⟩
   refine WL.val (run_pickF rfl) rfl rfl (WL.nil (W.condF rfl (W.skip (W.seq ?_))))
   have h2b : 2 + (nB b + 7) / 8 ≤ b.length := by rw [hml] at c33; omega
   have hmB := mB_len h2b
   have hmm : (newS (nB b)).m.length = (mB b).length := by rw [hml, hmB]
   have ob_ := cut_gives (k := 2) C (by omega) hbc
   obtain ⟨a2, c2, hcut2, C2⟩ := ob_
   have ob_ := cut_gives (k := 2 + (nB b + 7) / 8) C h2b hbc
   obtain ⟨ar, cr, hcutR, CR⟩ := ob_
   have h2o : (2 : Nat) ≤ b.length := by omega
   have hdc2 : 8 * nB b ≤ cd := hdc
   refine W.draw Tryz.follows h (fun w h => ?_)
   refine WT.pure 0 rfl (by kernel_rfl) (fun w' => run_move) rfl rfl (WT.pure 1 rfl (by kernel_rfl) (fun w' => run_move) rfl rfl (WT.pure 2 rfl (by kernel_rfl) (fun w' => (run_nilCheck rfl)) rfl rfl (WT.pure 3 rfl (by kernel_rfl) (fun w' => (run_fieldAddr 2 underlying105 rfl sizeOf103 rfl rfl)) rfl rfl (WT.load1 4 rfl (by kernel_rfl) isAgg103 rfl (h.cellB rfl) rfl rfl (WT.pure 5 rfl (by kernel_rfl) (fun w' => run_move) rfl rfl (WT.pure 6 rfl (by kernel_rfl) (fun w' => (run_cutLV (l := 2) underlying22 sizeOf5 rfl rfl h2o hcut2)) rfl rfl (WT.eff 7 [false] rfl (by kernel_rfl) (by kernel_rfl) (eff_copyIn (lo := 0) (m := (newS (nB b)).m.length) (h.fetch (Own 1 (.slice (some ⟨gm, om, none⟩) (newS (nB b)).m.length cm) (newS (nB b)).m.length (bytesV (newS (nB b)).m))) rfl rfl (h.readsTo C2) rfl underlying103 sizeOf5 (by omega) bytes_one) rfl rfl ?_)))))))
   rintro v42 w ⟨hv42, h⟩
   have hmin : min (b.drop 2).length (newS (nB b)).m.length = (nB b + 7) / 8 := by rw [hml, List.length_drop]; omega
   rw [hmin] at hv42 h
   have hsp : splice (bytesV (newS (nB b)).m) 0 ((bytesV (b.drop 2)).take ((nB b + 7) / 8)) = bytesV (mB b) := by
     have e1 : (bytesV (b.drop 2)).take ((nB b + 7) / 8) = bytesV (mB b) := by unfold mB bytesV; rw [List.map_take]
     rw [e1]
     unfold splice
     rw [List.take_zero, List.nil_append, Nat.zero_add, List.drop_eq_nil_of_le (by unfold bytesV; rw [List.length_map, List.length_map, hmm]; exact Nat.le_refl _), List.append_nil]
   rw [hsp, hmm] at h
   subst hv42
   refine ⟨trivial, ?_⟩
   refine WT.pure 8 rfl (by kernel_rfl) (fun w' => (run_addN (m := 2) (n := (nB b + 7) / 8) rfl rfl (by omega))) rfl rfl (WT.pure 9 rfl (by kernel_rfl) (fun w' => (run_cutLV (l := 2 + (nB b + 7) / 8) underlying22 sizeOf5 rfl rfl h2b hcutR)) rfl rfl (WT.pure 10 rfl (by kernel_rfl) (fun w' => run_assign) rfl rfl (WT.done (by kernel_rfl) (W.seq (W.seq ?_)))))
   have h := h.fetch (blk bs [.int .i64 ((newS (nB b)).N : Int), .slice (some ⟨gd, od, none⟩) (8 * (newS (nB b)).N) cd, .slice (some ⟨gm, om, none⟩) (mB b).length cm] 105)
   have h : On W0 (blk bs [.int .i64 (nB b : Int), .slice (some ⟨gd, od, none⟩) (8 * nB b) cd, .slice (some ⟨gm, om, none⟩) (mB b).length cm] 105 :: Own 1 (.slice (some ⟨gm, om, none⟩) (mB b).length cm) (mB b).length (bytesV (mB b)) :: Own 1 (.slice (some ⟨gd, od, none⟩) (8 * nB b) cd) (8 * nB b) (bytesV (List.replicate (8 * nB b) 0)) :: L) w := h
   refine W.region (WL.val run_move rfl rfl (WL.val (run_nilCheck rfl) rfl rfl (WL.val (run_fieldAddr 2 underlying105 rfl sizeOf103 rfl rfl) rfl rfl (WL.val (run_load1 isAgg103 rfl (h.cellB rfl)) rfl rfl (WL.eff (eff_call call53 (runs_ok (m := mB b) h (Gives.ownO (v := .slice (some ⟨gm, om, none⟩) (mB b).length cm)) (by omega))) rfl rfl ?_)))))
   rintro _ w ⟨Rr, a49, rfl, rfl, hR, h⟩
   refine WL.val (run_lenSlice underlying106 rfl) rfl rfl (WL.val run_move rfl rfl (WL.nil (W.block ?_)))
   refine W.loop (fun (k : Nat) env w => k ≤ (rowsOf (mB b)).length ∧ ∃ (j : Env) (s : Sp) (rest : List UInt8) (ar : Option Addr) (cr : Nat), s.N = nB b ∧ s.m = mB b ∧ s.d.length = 8 * nB b ∧ rest.length ≤ 100000 ∧ Gives F (Bytes (.slice ar rest.length cr) rest) ∧ decRows ((rowsOf (mB b)).drop k) s rest = decRows (rowsOf (mB b)) (⟨nB b, List.replicate (8 * nB b) 0, mB b⟩ : Sp) (b.drop (2 + (nB b + 7) / 8)) ∧ (∀ r ∈ (rowsOf (mB b)).take k, r.1 + r.2 ≤ nB b) ∧ env = mkE j [(0, .slice ab b.length cb), (6, .pointer (some ⟨bs, 0, none⟩)), (8, .slice ar rest.length cr), (49, .slice a49 (rowsOf (mB b)).length (rowsOf (mB b)).length), (50, .int .i64 ((rowsOf (mB b)).length : Nat)), (51, .int .i64 (k : Nat))] ∧ On W0 (blk bs [.int .i64 (nB b : Int), .slice (some ⟨gd, od, none⟩) (8 * nB b) cd, .slice (some ⟨gm, om, none⟩) (mB b).length cm] 105 :: Own 1 (.slice (some ⟨gm, om, none⟩) (mB b).length cm) (mB b).length (bytesV (mB b)) :: Own 1 (.slice (some ⟨gd, od, none⟩) (8 * nB b) cd) (8 * nB b) (bytesV s.d) :: Own 2 (.slice a49 (rowsOf (mB b)).length (rowsOf (mB b)).length) (rowsOf (mB b)).length ((rowsOf (mB b)).flatMap rowc) :: L) w) (fun k => (rowsOf (mB b)).length - k) (0) ?_ ?_
   · exact ⟨Nat.zero_le _, _, (⟨nB b, List.replicate (8 * nB b) 0, mB b⟩ : Sp), (b.drop (2 + (nB b + 7) / 8)), ar, cr, rfl, rfl, List.length_replicate, by rw [List.length_drop]; omega, CR, rfl, (fun r hr => by cases hr), mkE_of ⟨rfl, rfl, rfl, rfl, rfl, rfl, trivial⟩, h.to⟩
   clear h
   rintro k env w ⟨hkr, j, s, rest, ar, cr, hsN, hsm, hsd, hrl, CR, hD, hin, rfl, h⟩
   refine W.seq (W.region (WL.val (run_lss rfl rfl) rfl rfl (WL.nil (W.seq ?_))))
   refine W.condIf rfl (fun c13 => ?_) (fun c13 => ?_)
   ·
    refine W.skip (W.seq ?_)
    have hkl : k < (rowsOf (mB b)).length := by omega
    have ob_ : ∃ r, (rowsOf (mB b))[k]? = some r := ⟨(rowsOf (mB b))[k], by simp⟩
    obtain ⟨r, hr⟩ := ob_
    have haa := (h.cellsO (v := .slice a49 (rowsOf (mB b)).length (rowsOf (mB b)).length)).addr (by omega)
    obtain ⟨b9, o9, ha9⟩ := haa
    subst ha9
    have hpos := (hR.pos r (List.mem_of_getElem? hr)).2
    rw [hmB] at hpos
    have hfew := hR.few
    rw [hmB] at hfew
    refine W.block (W.seq (W.region (WL.val (run_indexAddr underlying106 sizeOf108 rfl rfl (by omega) (by omega)) rfl rfl (WL.val (run_loadN isAgg108 sizeOf108 rfl rfl ((h.cellsO (v := .slice (some ⟨b9, o9, none⟩) (rowsOf (mB b)).length (rowsOf (mB b)).length)).elem (i := k) (vs := rowc r) hkl (drop_flatMap rowc 2 rowc_length (rowsOf (mB b)) _ _ hr))) rfl rfl (WL.eff (eff_alloc h zeroValue108 rfl) rfl rfl ?_)))))
    rintro _ w ⟨b10, rfl, h⟩
    refine WL.eff (eff_storeN (vs := rowc r) h sizeOf108 rfl rfl rfl rfl rfl (fun k _ _ => free0 k)) rfl rfl ?_
    rintro _ w h
    have h : On W0 (blk b10 (rowc r) 108 :: _) w := h
    refine WL.nil (W.seq (W.seq ?_))
    refine W.draw Tryz.follows h (fun w h => ?_)
    refine WT.pure 0 rfl (by kernel_rfl) (fun w' => (run_indexAddrArr underlying108 sizeOf3 rfl rfl (by omega) (by omega))) rfl rfl (WT.load1 1 rfl (by kernel_rfl) isAgg3 rfl (h.cellB rfl) rfl rfl (WT.pure 2 rfl (by kernel_rfl) (fun w' => (run_indexAddrArr underlying108 sizeOf3 rfl rfl (by omega) (by omega))) rfl rfl (WT.load1 3 rfl (by kernel_rfl) isAgg3 rfl (h.cellB rfl) rfl rfl (WT.pure 4 rfl (by kernel_rfl) (fun w' => (run_addN (m := r.1) (n := r.2) rfl rfl (by omega))) rfl rfl (WT.pure 5 rfl (by kernel_rfl) (fun w' => run_move) rfl rfl (WT.pure 6 rfl (by kernel_rfl) (fun w' => (run_nilCheck rfl)) rfl rfl (WT.pure 7 rfl (by kernel_rfl) (fun w' => (run_fieldAddr 0 underlying105 rfl sizeOf3 rfl rfl)) rfl rfl ?_)))))))
    refine WT.load1 8 rfl (by kernel_rfl) isAgg3 rfl (h.cellB rfl) rfl rfl ?_
    refine WT.dec 9 rfl (by kernel_rfl) (fun w' => (run_gtr rfl rfl)) rfl rfl (fun c64 => ?_) (fun c64 => ?_)
    ·
     refine WT.pure 10 rfl (by kernel_rfl) (fun w' => run_move) rfl rfl (WT.skip 11 rfl (by kernel_rfl) rfl rfl (WT.skip 12 rfl (by kernel_rfl) rfl rfl (WT.skip 13 rfl (by kernel_rfl) rfl rfl (WT.skip 14 rfl (by kernel_rfl) rfl rfl (WT.skip 15 rfl (by kernel_rfl) rfl rfl (WT.skip 16 rfl (by kernel_rfl) rfl rfl (WT.pure 17 rfl (by kernel_rfl) (fun w' => (run_pickT rfl)) rfl rfl ?_)))))))
     refine WT.done (by kernel_rfl) (W.condT rfl (W.seq (W.region (WL.val run_assign rfl rfl (WL.val run_assign rfl rfl (WL.nil (W.ret ?_)))))))
     refine bodyQ.r2 (v1 := .pointer _) (v2 := .int .i64 _) results19 rfl rfl ?_
     exact .inr ⟨by unfold decS decS0; rw [if_pos ⟨⟨h1N, hN2⟩, h2b⟩, ← hD, decRows_stop hr (.inl (by rw [hsN]; omega))]; rfl, rfl, h.to⟩
    refine WT.pure 10 rfl (by kernel_rfl) (fun w' => run_move) rfl rfl (WT.pure 11 rfl (by kernel_rfl) (fun w' => run_move) rfl rfl (WT.pure 12 rfl (by kernel_rfl) (fun w' => (run_lenSlice underlying22 rfl)) rfl rfl (WT.pure 13 rfl (by kernel_rfl) (fun w' => (run_indexAddrArr underlying108 sizeOf3 rfl rfl (by omega) (by omega))) rfl rfl (WT.load1 14 rfl (by kernel_rfl) isAgg3 rfl (h.cellB rfl) rfl rfl (WT.pure 15 rfl (by kernel_rfl) (fun w' => (run_mulN (m := r.2) (n := 8) rfl rfl (by omega))) rfl rfl ?_)))))
    refine WT.dec 16 rfl (by kernel_rfl) (fun w' => (run_lss rfl rfl)) rfl rfl (fun c71 => ?_) (fun c71 => ?_)
    ·
     refine WT.pure 17 rfl (by kernel_rfl) (fun w' => (run_pickF rfl)) rfl rfl (WT.done (by kernel_rfl) (W.condT rfl (W.seq (W.region (WL.val run_assign rfl rfl (WL.val run_assign rfl rfl (WL.nil ?_)))))))
     refine W.ret (bodyQ.r2 (v1 := .pointer _) (v2 := .int .i64 _) results19 rfl rfl ?_)
     exact .inr ⟨by unfold decS decS0; rw [if_pos ⟨⟨h1N, hN2⟩, h2b⟩, ← hD, decRows_stop hr (.inr (by omega))]; rfl, rfl, h.to⟩
    refine WT.pure 17 rfl (by kernel_rfl) (fun w' => (run_pickF rfl)) rfl rfl (WT.done (by kernel_rfl) (W.condF rfl (W.skip ?_)))
    have hfit : ¬ (s.N < r.1 + r.2 ∨ rest.length < 8 * r.2) := by rw [hsN]; omega
    have hrN : r.1 + r.2 ≤ nB b := by omega
    have hr8 : 8 * r.2 ≤ rest.length := by omega
    have hpos2 := (hR.pos r (List.mem_of_getElem? hr)).1
    have hcrb := Cells.bounds (h.readsTo CR)
    have ob_ := sliced_part (b := gd) (o := od) (lo := r.1 * 8) (hi := (r.1 + r.2) * 8) (c := cd) (by omega) (by omega)
    obtain ⟨lo, hlo, hlo2⟩ := ob_
    have hlo3 : lo = r.1 * 8 := by omega
    subst hlo3
    have ob_ := cut_gives (k := 8 * r.2) CR hr8 hcrb.1
    obtain ⟨ax, cx, hcutX, CX⟩ := ob_
    have hm2 : (r.1 + r.2) * 8 - r.1 * 8 = 8 * r.2 := by omega
    rw [hm2] at hlo
    refine W.region (WL.val run_move rfl rfl (WL.val run_move rfl rfl (WL.val (run_indexAddrArr underlying108 sizeOf3 rfl rfl (by omega) (by omega)) rfl rfl (WL.val (run_load1 isAgg3 rfl (h.cellB rfl)) rfl rfl (WL.val (run_indexAddrArr underlying108 sizeOf3 rfl rfl (by omega) (by omega)) rfl rfl (WL.val (run_load1 isAgg3 rfl (h.cellB rfl)) rfl rfl (WL.eff (eff_call call54 (part_ok (b := bs) (gd := gd) (od := od) (cd := cd) (N := nB b) (at_ := r.1) (n := r.2) hN2 hrN hdc2 h)) rfl rfl ?_)))))))
    rintro _ w ⟨hv79, h⟩
    rw [hlo] at hv79
    subst hv79
    refine WL.val run_move rfl rfl (WL.eff (eff_copyIn (lo := r.1 * 8) (m := 8 * r.2) (h.fetch (Own 1 (.slice (some ⟨gd, od, none⟩) (8 * nB b) cd) (8 * nB b) (bytesV s.d))) rfl rfl (h.readsTo CR) rfl underlying22 sizeOf5 (by omega) bytes_one) rfl rfl ?_)
    rintro v81 w ⟨hv81, h⟩
    have hmin2 : min rest.length (8 * r.2) = 8 * r.2 := by omega
    rw [hmin2] at hv81 h
    have hov : splice (bytesV s.d) (r.1 * 8) ((bytesV rest).take (8 * r.2)) = bytesV (over s.d (8 * r.1) (rest.take (8 * r.2))) := by
      rw [show (bytesV rest).take (8 * r.2) = bytesV (rest.take (8 * r.2)) by unfold bytesV; rw [List.map_take], bytesV_over, Nat.mul_comm]
    rw [hov] at h
    subst hv81
    refine WL.val (run_cutLV (l := 8 * r.2) underlying22 sizeOf5 rfl rfl hr8 hcutX) rfl rfl (WL.val run_assign rfl rfl (WL.nil (W.region (WL.val (run_incN rfl rfl (by omega)) rfl rfl (WL.val run_move rfl rfl (WL.nil ?_))))))
    have hst := decRows_step (s := s) (rest := rest) hr hfit
    rw [hst, hsm, hsN] at hD
    have hov2 : (over s.d (8 * r.1) (rest.take (8 * r.2))).length = 8 * nB b := by rw [over_length (by rw [List.length_take]; omega)]; exact hsd
    exact ⟨k + 1, ⟨by omega, _, ⟨nB b, over s.d (8 * r.1) (rest.take (8 * r.2)), mB b⟩, rest.drop (8 * r.2), ax, cx, rfl, rfl, hov2, by rw [List.length_drop]; omega, CX, hD, fun q hq => by
      rw [RsM.take_snoc hr] at hq
      have ob_ := List.mem_append.1 hq
      rcases ob_ with hq | hq
      · exact hin q hq
      · simp at hq; subst hq; exact hrN, mkE_of ⟨rfl, rfl, rfl, rfl, rfl, rfl, trivial⟩, h.to⟩, by show (rowsOf (mB b)).length - (k + 1) < (rowsOf (mB b)).length - k; omega⟩
   refine W.exit (W.seq (W.seq ?_))
   have hkE : k = (rowsOf (mB b)).length := by omega
   have hsE : decS0 b = some s := by
     unfold decS0
     rw [if_pos ⟨⟨h1N, hN2⟩, h2b⟩, ← hD, hkE, List.drop_length]; rfl
   rw [hkE, List.take_length] at hin
   have hwf : Go.Sl.SpM.wfS s := ⟨by rw [hsd, hsN], by rw [hsN]; exact h1N, by rw [hsN]; exact hN2, by rw [hsm, hmB, hsN]⟩
   have hR2 : BitM.Rows s.m (rowsOf (mB b)) := by rw [hsm]; exact hR
   have hcapS : capS s := capS_rows hR2 (by rw [hsN]; exact hin)
   obtain ⟨sN, sd, sm⟩ := s
   have hsN : sN = nB b := hsN
   have hsm : sm = mB b := hsm
   subst hsN
   subst hsm
   have h := closeS (T := 105) (b := bs) (gd := gd) (od := od) (cd := cd) (am := some ⟨gm, om, none⟩) (cm := cm) (s := ⟨nB b, sd, mB b⟩) hwf (h.to (T := blk bs [.int .i64 (nB b : Int), .slice (some ⟨gd, od, none⟩) (8 * nB b) cd, .slice (some ⟨gm, om, none⟩) (mB b).length cm] 105 :: Own 1 (.slice (some ⟨gd, od, none⟩) (8 * nB b) cd) (8 * nB b) (bytesV sd) :: Own 1 (.slice (some ⟨gm, om, none⟩) (mB b).length cm) (mB b).length (bytesV (mB b)) :: L))
   refine W.region (WL.val run_move rfl rfl (WL.eff (eff_call call48 (sencode_ok (b := bs) (s := ⟨nB b, sd, mB b⟩) hcapS h)) rfl rfl ?_))
   rintro _ w ⟨a85, rfl, h⟩
   refine WL.val run_move rfl rfl (WL.eff (eff_call call24 (bequal_ok (bs := SpM.encS ⟨nB b, sd, mB b⟩) (cs := b) h (Gives.ownO (v := .slice a85 (SpM.encS ⟨nB b, sd, mB b⟩).length (SpM.encS ⟨nB b, sd, mB b⟩).length)) (Gives.to C))) rfl rfl ?_)
   rintro _ w ⟨hv, h⟩
   have hcs := Bool.eq_false_or_eq_true (decide (SpM.encS ⟨nB b, sd, mB b⟩ = b))
   rcases hcs with heq | heq <;> (rw [heq] at hv; subst hv)
   ·
    refine WL.val (run_not rfl) rfl rfl (WL.nil (W.condF rfl (W.skip (W.seq (W.region (WL.val run_move rfl rfl (WL.val run_assign rfl rfl ?_)))))))
    refine WL.val run_assign rfl rfl (WL.nil (W.ret (bodyQ.r2 (v1 := .pointer _) (v2 := .int .i64 _) results19 rfl rfl ?_)))
    have he := of_decide_eq_true heq
    exact .inl ⟨_, bs, by unfold decS; rw [hsE]; exact if_pos he, hcapS, rfl, h.to⟩
   refine WL.val (run_not rfl) rfl rfl (WL.nil (W.condT rfl (W.seq (W.region (WL.val run_assign rfl rfl (WL.val run_assign rfl rfl (WL.nil ?_)))))))
   refine W.ret (bodyQ.r2 (v1 := .pointer _) (v2 := .int .i64 _) results19 rfl rfl ?_)
   have he := of_decide_eq_false heq
   exact .inr ⟨by unfold decS; rw [hsE]; exact if_neg he, rfl, h.to⟩
  refine WL.val run_move rfl rfl (WL.val (run_extract rfl rfl) rfl rfl (WL.val (run_extract rfl rfl) rfl rfl (WL.val run_assign rfl rfl (WL.val run_assign rfl rfl (WL.nil (W.seq (W.seq ?_)))))))
  refine W.region (WL.val run_move rfl rfl (WL.val (run_neqT rfl rfl (by decide)) rfl rfl (WL.val run_move rfl rfl (WL.skip rfl rfl (WL.skip rfl rfl (WL.skip rfl rfl (WL.skip rfl rfl ?_)))))))
  refine WL.skip rfl rfl (WL.skip rfl rfl (WL.skip rfl rfl (WL.skip rfl rfl (WL.skip rfl rfl (WL.val (run_pickT rfl) rfl rfl (WL.nil (W.condT rfl ?_)))))))
  refine W.seq (W.region (WL.val run_assign rfl rfl (WL.val run_assign rfl rfl (WL.nil (W.ret (bodyQ.r2 (v1 := .pointer _) (v2 := .int .i64 _) results19 rfl rfl ?_))))))
  exact .inr ⟨by unfold decS decS0; rw [if_neg (fun hh => hno (by omega))]; rfl, rfl, h.to⟩
end Go.Proofs.YtjbgiingimhnnaaGreat
/-
  A row of uint64 of which only the length is told: reads and writes.
-/
namespace Go.Sl
open Go
set_option linter.unusedVariables false
section
variable {P : Program} {W0 w : World} {L : List HProp} {ρ : Operand → Value} {d : Option Nat} {ty : TypeId} {pos : String} {af : Array Edge} {g : Option (Nat × Bool)}
theorem Eff.mono {o : Oper} {R S : Value → World → Prop} (he : Eff P ρ o w R) (hi : ∀ v w', R v w' → S v w') : Eff P ρ o w S := by
  rcases he with ⟨v, w', h1, h2⟩ | ⟨w', h1, h2⟩ | he
  · exact .inl ⟨v, w', h1, hi _ _ h2⟩
  · exact .inr (.inl ⟨w', h1, hi _ _ h2⟩)
  · obtain ⟨f, args, w1, h1, h2⟩ := he
    exact .inr (.inr ⟨f, args, w1, h1, h2.mono (fun e w' hh => by obtain ⟨v, he, hr⟩ := hh; exact ⟨v, he, hi _ _ hr⟩)⟩)
/-- A row of n numbers, each of which is such as Q says. -/
def RowU (Q : Int → Prop) (v : Value) (n : Nat) : HProp := Ex fun ys : List Int => Pack (ys.length = n ∧ ∀ y ∈ ys, Q y) [Own 1 v n (ys.map (Value.int .u64))]
/-- What lies at a place. -/
def zAt (w : World) (a : Addr) : Int := match w.cell? a with | some (.int _ z) => z | _ => 0
variable {Q : Int → Prop}
theorem RowU.openR {v : Value} {n : Nat} (H : On W0 (RowU Q v n :: L) w) : ∃ ys : List Int, (ys.length = n ∧ ∀ y ∈ ys, Q y) ∧ On W0 (Own 1 v n (ys.map (Value.int .u64)) :: L) w := by
  obtain ⟨ys, H⟩ := H.ex
  obtain ⟨hl, H⟩ := H.unpack
  exact ⟨ys, hl, H⟩
theorem RowU.closeR {v : Value} {n : Nat} {ys : List Int} (hl : ys.length = n) (hq : ∀ y ∈ ys, Q y) (H : On W0 (Own 1 v n (ys.map (Value.int .u64)) :: L) w) : On W0 (RowU Q v n :: L) w :=
  On.exI ys (On.pack ⟨hl, hq⟩ H)
theorem RowU.get {b o n c : Nat} {i : Int} (H : On W0 (RowU Q (.slice (some ⟨b, o, none⟩) n c) n :: L) w) (h0 : 0 ≤ i) (h1 : i < n) : ∃ z : Int, Q z ∧ w.cell? ⟨b, o + i.toNat * 1, none⟩ = some (.int .u64 z) := by
  obtain ⟨ys, ⟨hl, hq⟩, H⟩ := RowU.openR H
  have hk : i.toNat < n := by omega
  have h1 : i.toNat < ys.length := by omega
  refine ⟨ys[i.toNat], hq _ (List.getElem_mem h1), (H.cellsO (v := .slice (some ⟨b, o, none⟩) n c)).elem (i := i.toNat) (vs := [.int .u64 ys[i.toNat]]) hk ?_ 0 _ rfl⟩
  rw [Nat.mul_one, ← List.map_drop, ← List.map_take]
  have h2 : (ys.drop i.toNat).take 1 = [ys[i.toNat]] := by
    rw [List.drop_eq_getElem_cons h1]; rfl
  rw [h2]; rfl
theorem RowU.cellZ {b o n c : Nat} {i : Int} (H : On W0 (RowU Q (.slice (some ⟨b, o, none⟩) n c) n :: L) w) (h0 : 0 ≤ i) (h1 : i < n) : w.cell? ⟨b, o + i.toNat * 1, none⟩ = some (.int .u64 (zAt w ⟨b, o + i.toNat * 1, none⟩)) := by
  obtain ⟨z, _, hz⟩ := RowU.get H h0 h1
  unfold zAt
  rw [hz]
theorem RowU.cellQ {b o n c : Nat} {i : Int} (H : On W0 (RowU Q (.slice (some ⟨b, o, none⟩) n c) n :: L) w) (h0 : 0 ≤ i) (h1 : i < n) : Q (zAt w ⟨b, o + i.toNat * 1, none⟩) := by
  obtain ⟨z, hq, hz⟩ := RowU.get H h0 h1
  unfold zAt
  rw [hz]; exact hq
theorem eff_setR {t b o n c : Nat} {i z : Int} {x y : Operand} (H : On W0 (RowU Q (.slice (some ⟨b, o, none⟩) n c) n :: L) w) (hS : ∀ w, (sizeOf t).run P w = .ok 1 w)
    (h : ρ x = .pointer (some ⟨b, o + i.toNat * 1, none⟩)) (hy : ρ y = .int .u64 z) (h0 : 0 ≤ i) (h1 : i < n) (hz : Q z) :
    Eff P ρ ⟨d, .store t x y, ty, pos, af, g⟩ w (fun _ w' => On W0 (RowU Q (.slice (some ⟨b, o, none⟩) n c) n :: L) w') := by
  obtain ⟨ys, ⟨hl, hq⟩, H⟩ := RowU.openR H
  refine Eff.mono (eff_storeOwn (k := i.toNat * 1) H hS h hy rfl (by omega)) ?_
  intro v w' h'
  refine RowU.closeR (ys := ys.set (i.toNat * 1) z) (by rw [List.length_set]; exact hl) ?_ (by rw [List.map_set]; exact h')
  intro u hu
  rcases List.mem_or_eq_of_mem_set hu with h2 | h2
  · exact hq u h2
  · rw [h2]; exact hz
theorem eff_setRK {t b o n c : Nat} {i z : Int} {K : Prop} {x y : Operand} (hk : K) (H : On W0 (RowU Q (.slice (some ⟨b, o, none⟩) n c) n :: L) w) (hS : ∀ w, (sizeOf t).run P w = .ok 1 w)
    (h : ρ x = .pointer (some ⟨b, o + i.toNat * 1, none⟩)) (hy : ρ y = .int .u64 z) (h0 : 0 ≤ i) (h1 : i < n) (hz : Q z) :
    Eff P ρ ⟨d, .store t x y, ty, pos, af, g⟩ w (fun _ w' => K ∧ On W0 (RowU Q (.slice (some ⟨b, o, none⟩) n c) n :: L) w') :=
  Eff.mono (eff_setR H hS h hy h0 h1 hz) fun _ _ h' => ⟨hk, h'⟩
/-! ### Bytes of a table -/
def tab (s : ByteArray) (x : Nat) : UInt8 := (s[x]?).getD 0
def tabOk (s : ByteArray) : Bool := (List.range 256).all fun x => decide (x < s.size) && (x == 0 || decide (2 ^ (tab s x).toNat ≤ 2 * x)) && decide ((tab s x).toNat ≤ 8)
theorem tabKey {s : ByteArray} {x : Nat} (h : tabOk s = true) (hx : x < 256) : s[(UInt8.ofNat x).toNat]? = some (tab s x) := by
  have h1 := List.all_eq_true.1 h x (List.mem_range.2 hx)
  simp only [Bool.and_eq_true, decide_eq_true_eq] at h1
  have e : (UInt8.ofNat x).toNat = x := by rw [UInt8.toNat_ofNat']; omega
  rw [e]
  unfold tab
  rw [getElem?_pos s x h1.1.1]; rfl
theorem tabLe {s : ByteArray} {x : Nat} (h : tabOk s = true) (hx : x < 256) (h0 : 0 < x) : 2 ^ (tab s x).toNat ≤ 2 * x := by
  have h1 := List.all_eq_true.1 h x (List.mem_range.2 hx)
  simp only [Bool.and_eq_true, Bool.or_eq_true, decide_eq_true_eq, beq_iff_eq] at h1
  rcases h1.1.2 with h2 | h2
  · omega
  · exact h2
theorem tab8 {s : ByteArray} {x : Nat} (h : tabOk s = true) (hx : x < 256) : (tab s x).toNat ≤ 8 := by
  have h1 := List.all_eq_true.1 h x (List.mem_range.2 hx)
  simp only [Bool.and_eq_true, decide_eq_true_eq] at h1
  exact h1.2
theorem lenB {s : ByteArray} {x m : Nat} (h : tabOk s = true) (hx : x < 256) (hm : m ≤ 8) : m + (tab s x).toNat ≤ 16 := by have := tab8 h hx; omega
theorem lenLo {s : ByteArray} {x : Nat} (h : tabOk s = true) (hx : x < 256) (h0 : 0 < x) : 2 ^ (0 + (tab s x).toNat) ≤ 2 * x := by rw [Nat.zero_add]; exact tabLe h hx h0
theorem lenHi {s : ByteArray} {x : Nat} (h : tabOk s = true) (hx : x / 256 < 256) (h0 : 256 ≤ x) : 2 ^ (8 + (tab s (x / 256)).toNat) ≤ 2 * x := by
  have h1 := tabLe h hx (by omega)
  rw [Nat.pow_add]
  have h2 : (2 : Nat) ^ 8 = 256 := by decide
  rw [h2]
  have h3 := Nat.mul_le_mul_left 256 h1
  omega
theorem run_convU8 {s t : TypeId} {x : Operand} {c : UInt8} {ds : TypeDesc} (hs : P.underlying s = some ds) (ht : P.underlying t = some (.int .i64)) (hx : ρ x = .int .u8 (c.toNat : Int)) :
    (execOp ρ ⟨d, .convert s t x, ty, pos, af, g⟩).run P w = .ok (.value (.int .i64 (c.toNat : Int))) w :=
  run_convInt64 hs ht hx (by omega) (by have := c.toNat_lt; omega)
theorem run_addU8 {t yt : TypeId} {x y : Operand} {m : Nat} {c : UInt8} (hx : ρ x = .int .i64 (m : Int)) (hy : ρ y = .int .i64 (c.toNat : Int)) (hm : m ≤ 1000) :
    (execOp ρ ⟨d, .binOp .add t x y yt, ty, pos, af, g⟩).run P w = .ok (.value (.int .i64 ((m + c.toNat : Nat) : Int))) w :=
  run_addN hx hy (by have := c.toNat_lt; omega)
def andV (z m : Int) : Nat := (BitVec.ofInt 64 z &&& BitVec.ofInt 64 m).toNat
theorem andV_le {z m : Int} (h0 : 0 ≤ m) (h1 : m < 18446744073709551616) : (andV z m : Int) ≤ m := by
  unfold andV
  rw [BitVec.toNat_and]
  have h2 : (BitVec.ofInt 64 m).toNat = m.toNat := by
    rw [BitVec.toNat_ofInt]
    have : (2 : Int) ^ 64 = 18446744073709551616 := by decide
    show (m % _).toNat = _
    congr 1
    exact Int.emod_eq_of_lt h0 (by show m < (2 : Int) ^ 64; omega)
  have h3 := Nat.and_le_right (n := (BitVec.ofInt 64 z).toNat) (m := (BitVec.ofInt 64 m).toNat)
  omega
theorem run_andU {t yt : TypeId} {x y : Operand} {z m : Int} (hx : ρ x = .int .u64 z) (hy : ρ y = .int .u64 m) :
    (execOp ρ ⟨d, .binOp .and t x y yt, ty, pos, af, g⟩).run P w = .ok (.value (.int .u64 (andV z m : Int))) w := by
  rw [run_and hx hy]
  have h1 : (BitVec.ofInt 64 z &&& BitVec.ofInt 64 m).toNat < 2 ^ 64 := BitVec.isLt _
  have h2 : (2 : Nat) ^ 64 = 18446744073709551616 := by decide
  have h3 : IntKind.wrap .u64 ((BitVec.ofInt (IntKind.bits .u64) z &&& BitVec.ofInt (IntKind.bits .u64) m).toNat : Int) = (andV z m : Int) := wrap_in .u64 (by show (0 : Int) ≤ _; omega) (by show _ ≤ (18446744073709551615 : Int); show ((BitVec.ofInt 64 z &&& BitVec.ofInt 64 m).toNat : Int) ≤ _; omega)
  rw [h3]
/-- One, shifted. -/
theorem run_shlOne {t yt : TypeId} {x y : Operand} {n : Nat} (hx : ρ x = .int .u64 1) (hy : ρ y = .int .i64 (n : Int)) (hn : n ≤ 62) :
    (execOp ρ ⟨d, .binOp .shl t x y yt, ty, pos, af, g⟩).run P w = .ok (.value (.int .u64 ((2 ^ n : Nat) : Int))) w := by
  rw [run_shl hx hy (by omega)]
  have e : min ((n : Int)).toNat (IntKind.bits .u64) = n := by show min n 64 = n; omega
  have h2 : (2 : Nat) ^ n ≤ 2 ^ 62 := Nat.pow_le_pow_right (by decide) hn
  have h3 : (2 : Nat) ^ 62 = 4611686018427387904 := by decide
  rw [e]
  have e2 : (1 : Int) * 2 ^ n = ((2 ^ n : Nat) : Int) := by rw [Int.one_mul]; push_cast; rfl
  rw [e2, wrap_in .u64 (by show (0 : Int) ≤ _; exact Int.natCast_nonneg _) (by show ((2 ^ n : Nat) : Int) ≤ ((18446744073709551615 : Nat) : Int); exact Int.ofNat_le.2 (by omega))]
end
end Go.Sl
/-
  A unit: numbers sorted: only how many there are, and of which kind: the contracts. Lines of walks printed by a program of the prover's.
-/
namespace Go.Proofs.YtjbgiingimhnnaaGreat
open Go.Proofs.Tryz
open Go Go.Sl Go.Sl.BitM Go.Sl.SpM Go.Sl.RsM Go.Sl.ByM Go.Sl.UnM
set_option linter.unusedVariables false
set_option linter.unusedSimpArgs false
set_option maxHeartbeats 1000000
set_option maxRecDepth 8000
variable {Q : Int → Prop} {W0 w : World} {L F : List HProp}
theorem isNaN_ok {x : Int} (h : On W0 L w) : Calls Tryz.prog 167 #[.int .u64 x] w (Ret fun v w' => v = .bool false ∧ On W0 L w') := by
  refine enter func167 rfl ntmps167 rfl (W.seq (W.region (WL.val run_assign rfl rfl (WL.nil (W.seq (W.region (WL.val run_move rfl rfl ?_)))))))
  refine WL.val run_move rfl rfl (WL.val (run_neqF rfl rfl (rfl)) rfl rfl (WL.val run_assign rfl rfl (WL.nil (W.ret (bodyQ.r1 (v := .bool _) results167 rfl ?_)))))
  exact ⟨rfl, h⟩
theorem less_ok {x y : Int} (h : On W0 L w) : Calls Tryz.prog 157 #[.int .u64 x, .int .u64 y] w (Ret fun v w' => (∃ b, v = .bool b) ∧ On W0 L w') := by
  refine enter func157 rfl ntmps157 rfl (W.seq (W.region (WL.val run_assign rfl rfl (WL.nil (W.seq (W.region (WL.val run_move rfl rfl ?_)))))))
  refine WL.eff (eff_call call167 (isNaN_ok h)) rfl rfl ?_
  rintro _ w ⟨rfl, h⟩
  refine WL.val run_move rfl rfl (WL.skip rfl rfl (WL.skip rfl rfl (WL.skip rfl rfl (WL.val (run_pickF rfl) rfl rfl (WL.val run_move rfl rfl (WL.val run_move rfl rfl (WL.val run_move rfl rfl ?_)))))))
  refine WL.val (run_lss rfl rfl) rfl rfl (WL.val (run_pickF rfl) rfl rfl (WL.val run_assign rfl rfl (WL.nil (W.ret (bodyQ.r1 (v := .bool _) results157 rfl ?_)))))
  exact ⟨⟨_, rfl⟩, h⟩
theorem insort_ok {bd od n cp : Nat} {a b : Int} (h0 : 0 ≤ a) (h1 : a ≤ b) (h2 : b ≤ (n : Int)) (hn : n < 65536) (h : On W0 (RowU Q (.slice (some ⟨bd, od, none⟩) n cp) n :: L) w) : Calls Tryz.prog 151 #[.slice (some ⟨bd, od, none⟩) n cp, .int .i64 a, .int .i64 b] w (Ret fun v w' => On W0 (RowU Q (.slice (some ⟨bd, od, none⟩) n cp) n :: L) w') := by
  refine enter func151 rfl ntmps151 rfl ?_
  have hmx := maxLen_eq
  refine W.seq (W.region (WL.val run_move rfl rfl (WL.val (run_add rfl rfl (by omega) (by omega)) rfl rfl (WL.val run_assign rfl rfl (WL.nil (W.block ?_))))))
  refine W.loop (fun (s : Int) env w => (a + 1 ≤ s) ∧ ∃ jk, env = mkE jk [(0, .slice (some ⟨bd, od, none⟩) n cp), (1, .int .i64 a), (2, .int .i64 b), (6, .int .i64 s)] ∧ On W0 (RowU Q (.slice (some ⟨bd, od, none⟩) n cp) n :: L) w) (fun s => (b - s).toNat) (a + 1) ?_ ?_
  · exact ⟨by (try dsimp only); omega, _, mkE_of ⟨rfl, rfl, rfl, rfl, trivial⟩, h⟩
  rintro i env w ⟨hI1, jk, rfl, h⟩
  refine W.seq (W.seq (W.region (WL.val run_move rfl rfl (WL.val run_move rfl rfl (WL.val (run_lss rfl rfl) rfl rfl (WL.nil ?_))))))
  refine W.condIf rfl (fun c4 => ?_) (fun c4 => ?_)
  ·
   refine W.skip (W.seq (W.block (W.seq (W.region (WL.val run_move rfl rfl (WL.val run_assign rfl rfl (WL.nil ?_)))))))
   refine W.block ?_
   refine W.loop (fun (s : Int) env w => (a ≤ s ∧ s ≤ i) ∧ ∃ jk, env = mkE jk [(0, .slice (some ⟨bd, od, none⟩) n cp), (1, .int .i64 a), (2, .int .i64 b), (6, .int .i64 i), (7, .int .i64 s)] ∧ On W0 (RowU Q (.slice (some ⟨bd, od, none⟩) n cp) n :: L) w) (fun s => (s - a).toNat) (i) ?_ ?_
   · exact ⟨by (try dsimp only); omega, _, mkE_of ⟨rfl, rfl, rfl, rfl, rfl, trivial⟩, h⟩
   rintro k env w ⟨hI2, jk, rfl, h⟩
   refine W.seq (W.seq ?_)
   refine W.draw Tryz.follows h (fun w h => ?_)
   refine WT.pure 0 rfl (by kernel_rfl) (fun w' => run_move) rfl rfl (WT.pure 1 rfl (by kernel_rfl) (fun w' => run_move) rfl rfl ?_)
   refine WT.dec 2 rfl (by kernel_rfl) (fun w' => (run_gtr rfl rfl)) rfl rfl (fun c18 => ?_) (fun c18 => ?_)
   ·
    refine WT.pure 3 rfl (by kernel_rfl) (fun w' => run_move) rfl rfl (WT.pure 4 rfl (by kernel_rfl) (fun w' => run_move) rfl rfl (WT.pure 5 rfl (by kernel_rfl) (fun w' => run_move) rfl rfl (WT.pure 6 rfl (by kernel_rfl) (fun w' => (run_indexAddr underlying129 sizeOf23 rfl rfl (by omega) (by omega))) rfl rfl (WT.load1 7 rfl (by kernel_rfl) isAgg23 rfl (RowU.cellZ h (by omega) (by omega)) rfl rfl (WT.pure 8 rfl (by kernel_rfl) (fun w' => run_move) rfl rfl (WT.pure 9 rfl (by kernel_rfl) (fun w' => run_move) rfl rfl (WT.pure 10 rfl (by kernel_rfl) (fun w' => (run_sub rfl rfl (by omega) (by omega))) rfl rfl ?_)))))))
    refine WT.pure 11 rfl (by kernel_rfl) (fun w' => (run_indexAddr underlying129 sizeOf23 rfl rfl (by omega) (by omega))) rfl rfl (WT.load1 12 rfl (by kernel_rfl) isAgg23 rfl (RowU.cellZ h (by omega) (by omega)) rfl rfl (WT.eff 13 [false, false] rfl (by kernel_rfl) (by kernel_rfl) (eff_call call157 (less_ok h)) rfl rfl ?_))
    rintro _ w ⟨⟨b29, rfl⟩, h⟩
    refine ⟨trivial, ?_⟩
    refine WT.pure 14 rfl (by kernel_rfl) (fun w' => (run_pickT rfl)) rfl rfl (WT.done (by kernel_rfl) ?_)
    refine W.condB rfl (fun c12 => ?_) (fun c12 => ?_)
    ·
     refine W.skip (W.seq (W.block ?_))
     refine W.draw Tryz.follows h (fun w h => ?_)
     refine WT.pure 0 rfl (by kernel_rfl) (fun w' => run_move) rfl rfl (WT.pure 1 rfl (by kernel_rfl) (fun w' => run_move) rfl rfl (WT.pure 2 rfl (by kernel_rfl) (fun w' => run_move) rfl rfl (WT.pure 3 rfl (by kernel_rfl) (fun w' => run_move) rfl rfl (WT.pure 4 rfl (by kernel_rfl) (fun w' => (run_sub rfl rfl (by omega) (by omega))) rfl rfl (WT.pure 5 rfl (by kernel_rfl) (fun w' => run_move) rfl rfl (WT.pure 6 rfl (by kernel_rfl) (fun w' => run_move) rfl rfl (WT.pure 7 rfl (by kernel_rfl) (fun w' => (run_sub rfl rfl (by omega) (by omega))) rfl rfl ?_)))))))
     refine WT.pure 8 rfl (by kernel_rfl) (fun w' => (run_indexAddr underlying129 sizeOf23 rfl rfl (by omega) (by omega))) rfl rfl (WT.load1 9 rfl (by kernel_rfl) isAgg23 rfl (RowU.cellZ h (by omega) (by omega)) rfl rfl (WT.pure 10 rfl (by kernel_rfl) (fun w' => run_move) rfl rfl (WT.pure 11 rfl (by kernel_rfl) (fun w' => run_move) rfl rfl (WT.pure 12 rfl (by kernel_rfl) (fun w' => (run_indexAddr underlying129 sizeOf23 rfl rfl (by omega) (by omega))) rfl rfl (WT.load1 13 rfl (by kernel_rfl) isAgg23 rfl (RowU.cellZ h (by omega) (by omega)) rfl rfl (WT.pure 14 rfl (by kernel_rfl) (fun w' => (run_indexAddr underlying129 sizeOf23 rfl rfl (by omega) (by omega))) rfl rfl (WT.eff 15 [false, false] rfl (by kernel_rfl) (by kernel_rfl) (eff_setRK (RowU.cellQ (i := k) h (by omega) (by omega)) h sizeOf23 rfl rfl (by omega) (by omega) (RowU.cellQ h (by omega) (by omega))) rfl rfl ?_)))))))
     rintro _ w ⟨hqK, h⟩
     refine ⟨trivial, ?_⟩
     refine WT.pure 16 rfl (by kernel_rfl) (fun w' => (run_indexAddr underlying129 sizeOf23 rfl rfl (by omega) (by omega))) rfl rfl (WT.eff 17 [] rfl (by kernel_rfl) (by kernel_rfl) (eff_setR h sizeOf23 rfl rfl (by omega) (by omega) hqK) rfl rfl ?_)
     rintro _ w h
     refine ⟨trivial, ?_⟩
     refine WT.done (by kernel_rfl) (W.region (WL.val run_move rfl rfl (WL.val (run_sub rfl rfl (by omega) (by omega)) rfl rfl (WL.val run_assign rfl rfl (WL.nil ?_)))))
     exact ⟨k - 1, ⟨by (try dsimp only); omega, _, mkE_of ⟨rfl, rfl, rfl, rfl, rfl, trivial⟩, h⟩, by show (k - 1 - a).toNat < (k - a).toNat; omega⟩
    refine W.exit (W.region (WL.val run_move rfl rfl (WL.val (run_add rfl rfl (by omega) (by omega)) rfl rfl (WL.val run_assign rfl rfl (WL.nil ?_)))))
    exact ⟨i + 1, ⟨by (try dsimp only); omega, _, mkE_of ⟨rfl, rfl, rfl, rfl, trivial⟩, h⟩, by show (b - (i + 1)).toNat < (b - i).toNat; omega⟩
   refine WT.pure 3 rfl (by kernel_rfl) (fun w' => run_move) rfl rfl (WT.skip 4 rfl (by kernel_rfl) rfl rfl (WT.skip 5 rfl (by kernel_rfl) rfl rfl (WT.skip 6 rfl (by kernel_rfl) rfl rfl (WT.skip 7 rfl (by kernel_rfl) rfl rfl (WT.skip 8 rfl (by kernel_rfl) rfl rfl (WT.skip 9 rfl (by kernel_rfl) rfl rfl (WT.skip 10 rfl (by kernel_rfl) rfl rfl ?_)))))))
   refine WT.skip 11 rfl (by kernel_rfl) rfl rfl (WT.skip 12 rfl (by kernel_rfl) rfl rfl (WT.skip 13 rfl (by kernel_rfl) rfl rfl (WT.pure 14 rfl (by kernel_rfl) (fun w' => (run_pickF rfl)) rfl rfl (WT.done (by kernel_rfl) (W.condF rfl (W.exit (W.region ?_)))))))
   refine WL.val run_move rfl rfl (WL.val (run_add rfl rfl (by omega) (by omega)) rfl rfl (WL.val run_assign rfl rfl (WL.nil ?_)))
   exact ⟨i + 1, ⟨by (try dsimp only); omega, _, mkE_of ⟨rfl, rfl, rfl, rfl, trivial⟩, h⟩, by show (b - (i + 1)).toNat < (b - i).toNat; omega⟩
  refine W.exit (bodyQ.fall (bodyQ.r0 results151 ?_))
  exact h
theorem sift_ok {bd od n cp : Nat} {lo hi first : Int} (h0 : 0 ≤ lo) (h1 : 0 ≤ first) (h2 : first + hi ≤ (n : Int)) (h3 : 0 ≤ hi) (h4 : lo ≤ 70000) (hn : n < 65536) (h : On W0 (RowU Q (.slice (some ⟨bd, od, none⟩) n cp) n :: L) w) : Calls Tryz.prog 162 #[.slice (some ⟨bd, od, none⟩) n cp, .int .i64 lo, .int .i64 hi, .int .i64 first] w (Ret fun v w' => On W0 (RowU Q (.slice (some ⟨bd, od, none⟩) n cp) n :: L) w') := by
  refine enter func162 rfl ntmps162 rfl ?_
  have hmx := maxLen_eq
  refine W.seq (W.region (WL.val run_move rfl rfl (WL.val run_assign rfl rfl (WL.nil (W.block ?_)))))
  refine W.loop (fun (s : Int) env w => (0 ≤ s ∧ s ≤ 70000) ∧ ∃ jk, env = mkE jk [(0, .slice (some ⟨bd, od, none⟩) n cp), (2, .int .i64 hi), (3, .int .i64 first), (8, .int .i64 s)] ∧ On W0 (RowU Q (.slice (some ⟨bd, od, none⟩) n cp) n :: L) w) (fun s => (hi - s).toNat) (lo) ?_ ?_
  · exact ⟨by (try dsimp only); omega, _, mkE_of ⟨rfl, rfl, rfl, rfl, trivial⟩, h⟩
  rintro r env w ⟨hI3, jk, rfl, h⟩
  refine W.block (W.seq (W.region (WL.val run_move rfl rfl (WL.val (run_mul rfl rfl (by omega) (by omega)) rfl rfl (WL.val (run_add rfl rfl (by omega) (by omega)) rfl rfl (WL.val run_assign rfl rfl (WL.nil ?_)))))))
  refine W.seq (W.seq (W.region (WL.val run_move rfl rfl (WL.val run_move rfl rfl (WL.val (run_geq rfl rfl) rfl rfl (WL.nil ?_))))))
  refine W.condIf rfl (fun c6 => ?_) (fun c6 => ?_)
  ·
   refine W.exit (bodyQ.fall (bodyQ.r0 results162 ?_))
   exact h
  refine W.skip ?_
  refine W.cut (fun env w => ∃ (c : Int), (r < c ∧ c < hi) ∧ ∃ jk, env = mkE jk [(0, .slice (some ⟨bd, od, none⟩) n cp), (2, .int .i64 hi), (3, .int .i64 first), (8, .int .i64 r), (9, .int .i64 c)] ∧ On W0 (RowU Q (.slice (some ⟨bd, od, none⟩) n cp) n :: L) w) ?_ ?_
  ·
   refine W.seq ?_
   refine W.draw Tryz.follows h (fun w h => ?_)
   refine WT.pure 0 rfl (by kernel_rfl) (fun w' => run_move) rfl rfl (WT.pure 1 rfl (by kernel_rfl) (fun w' => (run_add rfl rfl (by omega) (by omega))) rfl rfl (WT.pure 2 rfl (by kernel_rfl) (fun w' => run_move) rfl rfl ?_))
   refine WT.dec 3 rfl (by kernel_rfl) (fun w' => (run_lss rfl rfl)) rfl rfl (fun c20 => ?_) (fun c20 => ?_)
   ·
    refine WT.pure 4 rfl (by kernel_rfl) (fun w' => run_move) rfl rfl (WT.pure 5 rfl (by kernel_rfl) (fun w' => run_move) rfl rfl (WT.pure 6 rfl (by kernel_rfl) (fun w' => run_move) rfl rfl (WT.pure 7 rfl (by kernel_rfl) (fun w' => run_move) rfl rfl (WT.pure 8 rfl (by kernel_rfl) (fun w' => (run_add rfl rfl (by omega) (by omega))) rfl rfl (WT.pure 9 rfl (by kernel_rfl) (fun w' => (run_indexAddr underlying129 sizeOf23 rfl rfl (by omega) (by omega))) rfl rfl (WT.load1 10 rfl (by kernel_rfl) isAgg23 rfl (RowU.cellZ h (by omega) (by omega)) rfl rfl (WT.pure 11 rfl (by kernel_rfl) (fun w' => run_move) rfl rfl ?_)))))))
    refine WT.pure 12 rfl (by kernel_rfl) (fun w' => run_move) rfl rfl (WT.pure 13 rfl (by kernel_rfl) (fun w' => run_move) rfl rfl (WT.pure 14 rfl (by kernel_rfl) (fun w' => (run_add rfl rfl (by omega) (by omega))) rfl rfl (WT.pure 15 rfl (by kernel_rfl) (fun w' => (run_add rfl rfl (by omega) (by omega))) rfl rfl (WT.pure 16 rfl (by kernel_rfl) (fun w' => (run_indexAddr underlying129 sizeOf23 rfl rfl (by omega) (by omega))) rfl rfl (WT.load1 17 rfl (by kernel_rfl) isAgg23 rfl (RowU.cellZ h (by omega) (by omega)) rfl rfl (WT.eff 18 [false, false] rfl (by kernel_rfl) (by kernel_rfl) (eff_call call157 (less_ok h)) rfl rfl ?_))))))
    rintro _ w ⟨⟨b35, rfl⟩, h⟩
    refine ⟨trivial, ?_⟩
    refine WT.pure 19 rfl (by kernel_rfl) (fun w' => (run_pickT rfl)) rfl rfl (WT.done (by kernel_rfl) ?_)
    refine W.condB rfl (fun c10 => ?_) (fun c10 => ?_)
    ·
     refine W.region (WL.val run_move rfl rfl (WL.val (run_add rfl rfl (by omega) (by omega)) rfl rfl (WL.val run_assign rfl rfl (WL.nil ?_))))
     exact ⟨2 * r + 1 + 1, by omega, _, mkE_of ⟨rfl, rfl, rfl, rfl, rfl, trivial⟩, h⟩
    refine W.skip ?_
    exact ⟨2 * r + 1, by omega, _, mkE_of ⟨rfl, rfl, rfl, rfl, rfl, trivial⟩, h⟩
   refine WT.pure 4 rfl (by kernel_rfl) (fun w' => run_move) rfl rfl (WT.skip 5 rfl (by kernel_rfl) rfl rfl (WT.skip 6 rfl (by kernel_rfl) rfl rfl (WT.skip 7 rfl (by kernel_rfl) rfl rfl (WT.skip 8 rfl (by kernel_rfl) rfl rfl (WT.skip 9 rfl (by kernel_rfl) rfl rfl (WT.skip 10 rfl (by kernel_rfl) rfl rfl (WT.skip 11 rfl (by kernel_rfl) rfl rfl ?_)))))))
   refine WT.skip 12 rfl (by kernel_rfl) rfl rfl (WT.skip 13 rfl (by kernel_rfl) rfl rfl (WT.skip 14 rfl (by kernel_rfl) rfl rfl (WT.skip 15 rfl (by kernel_rfl) rfl rfl (WT.skip 16 rfl (by kernel_rfl) rfl rfl (WT.skip 17 rfl (by kernel_rfl) rfl rfl (WT.skip 18 rfl (by kernel_rfl) rfl rfl (WT.pure 19 rfl (by kernel_rfl) (fun w' => (run_pickF rfl)) rfl rfl ?_)))))))
   refine WT.done (by kernel_rfl) (W.condF rfl (W.skip ?_))
   exact ⟨2 * r + 1, by omega, _, mkE_of ⟨rfl, rfl, rfl, rfl, rfl, trivial⟩, h⟩
  rintro env w ⟨c, hC4, jk, rfl, h⟩
  refine W.seq (W.seq ?_)
  refine W.draw Tryz.follows h (fun w h => ?_)
  refine WT.pure 0 rfl (by kernel_rfl) (fun w' => run_move) rfl rfl (WT.pure 1 rfl (by kernel_rfl) (fun w' => run_move) rfl rfl (WT.pure 2 rfl (by kernel_rfl) (fun w' => run_move) rfl rfl (WT.pure 3 rfl (by kernel_rfl) (fun w' => (run_add rfl rfl (by omega) (by omega))) rfl rfl (WT.pure 4 rfl (by kernel_rfl) (fun w' => (run_indexAddr underlying129 sizeOf23 rfl rfl (by omega) (by omega))) rfl rfl (WT.load1 5 rfl (by kernel_rfl) isAgg23 rfl (RowU.cellZ h (by omega) (by omega)) rfl rfl (WT.pure 6 rfl (by kernel_rfl) (fun w' => run_move) rfl rfl (WT.pure 7 rfl (by kernel_rfl) (fun w' => run_move) rfl rfl ?_)))))))
  refine WT.pure 8 rfl (by kernel_rfl) (fun w' => run_move) rfl rfl (WT.pure 9 rfl (by kernel_rfl) (fun w' => (run_add rfl rfl (by omega) (by omega))) rfl rfl (WT.pure 10 rfl (by kernel_rfl) (fun w' => (run_indexAddr underlying129 sizeOf23 rfl rfl (by omega) (by omega))) rfl rfl (WT.load1 11 rfl (by kernel_rfl) isAgg23 rfl (RowU.cellZ h (by omega) (by omega)) rfl rfl (WT.eff 12 [false, false] rfl (by kernel_rfl) (by kernel_rfl) (eff_call call157 (less_ok h)) rfl rfl ?_))))
  rintro _ w ⟨⟨b51, rfl⟩, h⟩
  refine ⟨trivial, ?_⟩
  refine WT.pure 13 rfl (by kernel_rfl) (fun w' => (run_not rfl)) rfl rfl (WT.done (by kernel_rfl) ?_)
  refine W.condB rfl (fun c14 => ?_) (fun c14 => ?_)
  ·
   refine W.ret (bodyQ.r0 results162 ?_)
   exact h
  refine W.skip (W.seq ?_)
  refine W.draw Tryz.follows h (fun w h => ?_)
  refine WT.pure 0 rfl (by kernel_rfl) (fun w' => run_move) rfl rfl (WT.pure 1 rfl (by kernel_rfl) (fun w' => run_move) rfl rfl (WT.pure 2 rfl (by kernel_rfl) (fun w' => run_move) rfl rfl (WT.pure 3 rfl (by kernel_rfl) (fun w' => (run_add rfl rfl (by omega) (by omega))) rfl rfl (WT.pure 4 rfl (by kernel_rfl) (fun w' => run_move) rfl rfl (WT.pure 5 rfl (by kernel_rfl) (fun w' => run_move) rfl rfl (WT.pure 6 rfl (by kernel_rfl) (fun w' => run_move) rfl rfl (WT.pure 7 rfl (by kernel_rfl) (fun w' => (run_add rfl rfl (by omega) (by omega))) rfl rfl ?_)))))))
  refine WT.pure 8 rfl (by kernel_rfl) (fun w' => run_move) rfl rfl (WT.pure 9 rfl (by kernel_rfl) (fun w' => run_move) rfl rfl (WT.pure 10 rfl (by kernel_rfl) (fun w' => run_move) rfl rfl (WT.pure 11 rfl (by kernel_rfl) (fun w' => (run_add rfl rfl (by omega) (by omega))) rfl rfl (WT.pure 12 rfl (by kernel_rfl) (fun w' => (run_indexAddr underlying129 sizeOf23 rfl rfl (by omega) (by omega))) rfl rfl (WT.load1 13 rfl (by kernel_rfl) isAgg23 rfl (RowU.cellZ h (by omega) (by omega)) rfl rfl (WT.pure 14 rfl (by kernel_rfl) (fun w' => run_move) rfl rfl (WT.pure 15 rfl (by kernel_rfl) (fun w' => run_move) rfl rfl ?_)))))))
  refine WT.pure 16 rfl (by kernel_rfl) (fun w' => run_move) rfl rfl (WT.pure 17 rfl (by kernel_rfl) (fun w' => (run_add rfl rfl (by omega) (by omega))) rfl rfl (WT.pure 18 rfl (by kernel_rfl) (fun w' => (run_indexAddr underlying129 sizeOf23 rfl rfl (by omega) (by omega))) rfl rfl (WT.load1 19 rfl (by kernel_rfl) isAgg23 rfl (RowU.cellZ h (by omega) (by omega)) rfl rfl (WT.pure 20 rfl (by kernel_rfl) (fun w' => (run_indexAddr underlying129 sizeOf23 rfl rfl (by omega) (by omega))) rfl rfl (WT.eff 21 [false, false] rfl (by kernel_rfl) (by kernel_rfl) (eff_setRK (RowU.cellQ (i := (first + r)) h (by omega) (by omega)) h sizeOf23 rfl rfl (by omega) (by omega) (RowU.cellQ h (by omega) (by omega))) rfl rfl ?_)))))
  rintro _ w ⟨hqK, h⟩
  refine ⟨trivial, ?_⟩
  refine WT.pure 22 rfl (by kernel_rfl) (fun w' => (run_indexAddr underlying129 sizeOf23 rfl rfl (by omega) (by omega))) rfl rfl (WT.eff 23 [] rfl (by kernel_rfl) (by kernel_rfl) (eff_setR h sizeOf23 rfl rfl (by omega) (by omega) hqK) rfl rfl ?_)
  rintro _ w h
  refine ⟨trivial, ?_⟩
  refine WT.done (by kernel_rfl) (W.region (WL.val run_move rfl rfl (WL.val run_assign rfl rfl (WL.nil ?_))))
  exact ⟨c, ⟨by (try dsimp only); omega, _, mkE_of ⟨rfl, rfl, rfl, rfl, trivial⟩, h⟩, by show (hi - c).toNat < (hi - r).toNat; omega⟩
theorem heap_ok {bd od n cp : Nat} {a b : Int} (h0 : 0 ≤ a) (h1 : a < b) (h2 : b ≤ (n : Int)) (hn : n < 65536) (h : On W0 (RowU Q (.slice (some ⟨bd, od, none⟩) n cp) n :: L) w) : Calls Tryz.prog 152 #[.slice (some ⟨bd, od, none⟩) n cp, .int .i64 a, .int .i64 b] w (Ret fun v w' => On W0 (RowU Q (.slice (some ⟨bd, od, none⟩) n cp) n :: L) w') := by
  refine enter func152 rfl ntmps152 rfl ?_
  have hmx := maxLen_eq
  refine W.seq (W.region (WL.val run_move rfl rfl (WL.val run_assign rfl rfl (WL.nil (W.seq (W.region (WL.val run_assign rfl rfl ?_)))))))
  refine WL.nil (W.seq (W.region (WL.val run_move rfl rfl (WL.val run_move rfl rfl (WL.val (run_sub rfl rfl (by omega) (by omega)) rfl rfl (WL.val run_assign rfl rfl (WL.nil ?_)))))))
  refine W.seq (W.seq (W.region (WL.val run_move rfl rfl (WL.val (run_sub rfl rfl (by omega) (by omega)) rfl rfl (WL.val (run_quo rfl rfl (by omega) (by omega) (by omega)) rfl rfl (WL.val run_assign rfl rfl (WL.nil ?_)))))))
  refine W.block ?_
  refine W.loop (fun (s : Int) env w => (-1 ≤ s ∧ s ≤ b - a) ∧ ∃ jk, env = mkE jk [(0, .slice (some ⟨bd, od, none⟩) n cp), (6, .int .i64 a), (7, .int .i64 0), (8, .int .i64 (b - a)), (9, .int .i64 s)] ∧ On W0 (RowU Q (.slice (some ⟨bd, od, none⟩) n cp) n :: L) w) (fun s => (s + 1).toNat) ((b - a - 1) / 2) ?_ ?_
  · exact ⟨by (try dsimp only); omega, _, mkE_of ⟨rfl, rfl, rfl, rfl, rfl, trivial⟩, h⟩
  rintro i env w ⟨hI5, jk, rfl, h⟩
  refine W.seq (W.seq (W.region (WL.val run_move rfl rfl (WL.val (run_geq rfl rfl) rfl rfl (WL.nil ?_)))))
  refine W.condIf rfl (fun c7 => ?_) (fun c7 => ?_)
  ·
   refine W.skip (W.seq (W.block (W.region (WL.val run_move rfl rfl (WL.val run_move rfl rfl (WL.val run_move rfl rfl (WL.val run_move rfl rfl ?_)))))))
   refine WL.eff (eff_call call162 (sift_ok (lo := i) (hi := b - a) (first := a) (by omega) (by omega) (by omega) (by omega) (by omega) hn h)) rfl rfl ?_
   rintro _ w h
   refine WL.nil (W.region (WL.val run_move rfl rfl (WL.val (run_sub rfl rfl (by omega) (by omega)) rfl rfl (WL.val run_assign rfl rfl (WL.nil ?_)))))
   exact ⟨i - 1, ⟨by (try dsimp only); omega, _, mkE_of ⟨rfl, rfl, rfl, rfl, rfl, trivial⟩, h⟩, by show (i - 1 + 1).toNat < (i + 1).toNat; omega⟩
  refine W.exit (W.seq (W.region (WL.val run_move rfl rfl (WL.val (run_sub rfl rfl (by omega) (by omega)) rfl rfl (WL.val run_assign rfl rfl (WL.nil (W.block ?_)))))))
  refine W.loop (fun (s : Int) env w => (-1 ≤ s ∧ s < b - a) ∧ ∃ jk, env = mkE jk [(0, .slice (some ⟨bd, od, none⟩) n cp), (6, .int .i64 a), (7, .int .i64 0), (8, .int .i64 (b - a)), (10, .int .i64 s)] ∧ On W0 (RowU Q (.slice (some ⟨bd, od, none⟩) n cp) n :: L) w) (fun s => (s + 1).toNat) (b - a - 1) ?_ ?_
  · exact ⟨by (try dsimp only); omega, _, mkE_of ⟨rfl, rfl, rfl, rfl, rfl, trivial⟩, h⟩
  rintro i env w ⟨hI6, jk, rfl, h⟩
  refine W.seq (W.seq (W.region (WL.val run_move rfl rfl (WL.val (run_geq rfl rfl) rfl rfl (WL.nil ?_)))))
  refine W.condIf rfl (fun c17 => ?_) (fun c17 => ?_)
  ·
   refine W.skip (W.seq (W.block (W.seq ?_)))
   refine W.draw Tryz.follows h (fun w h => ?_)
   refine WT.pure 0 rfl (by kernel_rfl) (fun w' => run_move) rfl rfl (WT.pure 1 rfl (by kernel_rfl) (fun w' => run_move) rfl rfl (WT.pure 2 rfl (by kernel_rfl) (fun w' => run_move) rfl rfl (WT.pure 3 rfl (by kernel_rfl) (fun w' => run_move) rfl rfl (WT.pure 4 rfl (by kernel_rfl) (fun w' => run_move) rfl rfl (WT.pure 5 rfl (by kernel_rfl) (fun w' => (run_add rfl rfl (by omega) (by omega))) rfl rfl (WT.pure 6 rfl (by kernel_rfl) (fun w' => run_move) rfl rfl (WT.pure 7 rfl (by kernel_rfl) (fun w' => run_move) rfl rfl ?_)))))))
   refine WT.pure 8 rfl (by kernel_rfl) (fun w' => run_move) rfl rfl (WT.pure 9 rfl (by kernel_rfl) (fun w' => (run_add rfl rfl (by omega) (by omega))) rfl rfl (WT.pure 10 rfl (by kernel_rfl) (fun w' => (run_indexAddr underlying129 sizeOf23 rfl rfl (by omega) (by omega))) rfl rfl (WT.load1 11 rfl (by kernel_rfl) isAgg23 rfl (RowU.cellZ h (by omega) (by omega)) rfl rfl (WT.pure 12 rfl (by kernel_rfl) (fun w' => run_move) rfl rfl (WT.pure 13 rfl (by kernel_rfl) (fun w' => run_move) rfl rfl (WT.pure 14 rfl (by kernel_rfl) (fun w' => (run_indexAddr underlying129 sizeOf23 rfl rfl (by omega) (by omega))) rfl rfl (WT.load1 15 rfl (by kernel_rfl) isAgg23 rfl (RowU.cellZ h (by omega) (by omega)) rfl rfl ?_)))))))
   refine WT.pure 16 rfl (by kernel_rfl) (fun w' => (run_indexAddr underlying129 sizeOf23 rfl rfl (by omega) (by omega))) rfl rfl (WT.eff 17 [false, false] rfl (by kernel_rfl) (by kernel_rfl) (eff_setRK (RowU.cellQ (i := a) h (by omega) (by omega)) h sizeOf23 rfl rfl (by omega) (by omega) (RowU.cellQ h (by omega) (by omega))) rfl rfl ?_)
   rintro _ w ⟨hqK, h⟩
   refine ⟨trivial, ?_⟩
   refine WT.pure 18 rfl (by kernel_rfl) (fun w' => (run_indexAddr underlying129 sizeOf23 rfl rfl (by omega) (by omega))) rfl rfl (WT.eff 19 [] rfl (by kernel_rfl) (by kernel_rfl) (eff_setR h sizeOf23 rfl rfl (by omega) (by omega) hqK) rfl rfl ?_)
   rintro _ w h
   refine ⟨trivial, ?_⟩
   refine WT.done (by kernel_rfl) (W.region (WL.val run_move rfl rfl (WL.val run_move rfl rfl (WL.val run_move rfl rfl (WL.val run_move rfl rfl (WL.eff (eff_call call162 (sift_ok (lo := 0) (hi := i) (first := a) (by omega) (by omega) (by omega) (by omega) (by omega) hn h)) rfl rfl ?_))))))
   rintro _ w h
   refine WL.nil (W.region (WL.val run_move rfl rfl (WL.val (run_sub rfl rfl (by omega) (by omega)) rfl rfl (WL.val run_assign rfl rfl (WL.nil ?_)))))
   exact ⟨i - 1, ⟨by (try dsimp only); omega, _, mkE_of ⟨rfl, rfl, rfl, rfl, rfl, trivial⟩, h⟩, by show (i - 1 + 1).toNat < (i + 1).toNat; omega⟩
  refine W.exit (bodyQ.fall (bodyQ.r0 results152 ?_))
  exact h
end Go.Proofs.YtjbgiingimhnnaaGreat
