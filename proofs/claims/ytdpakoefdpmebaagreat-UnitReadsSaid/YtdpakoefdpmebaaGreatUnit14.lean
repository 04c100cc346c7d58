/-
  A unit: a table read: the contracts. Lines of walks printed by a program of the prover's.
-/
import Derived.Test.YtdpakoefdpmebaaGreatUnit13
namespace Go.Proofs.YtdpakoefdpmebaaGreat
open Go Go.Sl Go.Sl.BitM Go.Sl.SpM Go.Sl.RsM Go.Sl.ByM Go.Sl.UnM
set_option linter.unusedVariables false
set_option linter.unusedSimpArgs false
set_option maxHeartbeats 1000000
set_option maxRecDepth 8000
variable {W0 w : World} {L F : List HProp}

theorem rdecode_ok [tF : To L F] {cb : Nat} {ab : Option Addr} {b : List UInt8} (hb : b.length ≤ 100000) (h : On W0 L w) (C : Gives F (Bytes (.slice ab b.length cb) b)) : Calls Tryz.prog 31 #[.slice ab b.length cb] w (Ret fun v w' => (∃ t bt, decT b = some t ∧ v = .tuple #[.pointer (some ⟨bt, 0, none⟩), .int .i64 0] ∧ On W0 (blk bt t.cells 152 :: L) w') ∨ (decT b = none ∧ v = .tuple #[.pointer none, .int .i64 2] ∧ On W0 L w')) := by
  refine enter Tryz.func31 rfl Tryz.ntmps31 rfl ?_
  have hmx := maxLen_eq
  refine W.seq ?_
  refine W.region ?_
  refine WL.val run_assign rfl rfl ?_
  refine WL.val run_assign rfl rfl ?_
  refine WL.nil ?_
  refine W.seq ?_
  refine W.seq ?_
  refine W.region ?_
  refine WL.val run_move rfl rfl ?_
  refine WL.val (run_lenSlice Tryz.underlying22 rfl) rfl rfl ?_
  refine WL.val (run_neq rfl rfl) rfl rfl ?_
  refine WL.nil ?_
  refine W.condIf rfl (fun c2 => ?_) (fun c2 => ?_)
  · skip
    refine W.seq ?_
    refine W.region ?_
    refine WL.val run_assign rfl rfl ?_
    refine WL.val run_assign rfl rfl ?_
    refine WL.nil ?_
    refine W.ret ?_
    refine bodyQ.r2 (v1 := .pointer _) (v2 := .int .i64 _) Tryz.results31 rfl rfl ?_
    -- path T
    exact .inr ⟨by unfold decT; rw [if_neg (fun hh => c2 (by omega))], rfl, h⟩
  · skip
    refine W.skip ?_
    refine W.seq ?_
    have hb70 : b.length = 70 := by omega
    have ob_ : ∃ x, b[68]? = some x := ⟨b[68]'(by omega), by simp⟩
    obtain ⟨x68, h68⟩ := ob_
    have ob_ : ∃ x, b[69]? = some x := ⟨b[69]'(by omega), by simp⟩
    obtain ⟨x69, h69⟩ := ob_
    have e68 : b.getD 68 0 = x68 := by rw [List.getD_eq_getElem?_getD, h68]; rfl
    have e69 : b.getD 69 0 = x69 := by rw [List.getD_eq_getElem?_getD, h69]; rfl
    have t68 := x68.toNat_lt
    have t69 := x69.toNat_lt
    have hgl := gen_lt b
    have ob_ := (h.readsTo C).addr (by omega)
    obtain ⟨ba, oa, haa⟩ := ob_
    subst haa
    refine W.region ?_
    refine WL.eff (eff_call Tryz.call43 (rnew_ok h)) rfl rfl ?_
    rintro _ w ⟨b4, rfl, h⟩
    refine WL.val run_assign rfl rfl ?_
    refine WL.nil ?_
    refine W.seq ?_
    refine W.region ?_
    refine WL.val run_move rfl rfl ?_
    refine WL.eff (eff_call Tryz.call80 (bget_ok (at_ := ((0 : Nat) : Int)) (n := ((4 : Nat) : Int)) (bs := b) h (Gives.to C))) rfl rfl ?_
    rintro _ w hg
    rcases hg with ⟨hok, rfl, h⟩ | ⟨hno, _, _⟩
    rotate_left
    · exact absurd (show _ by omega) hno
    refine WL.val run_move rfl rfl ?_
    refine WL.val (run_extract rfl rfl) rfl rfl ?_
    refine WL.val (run_extract rfl rfl) rfl rfl ?_
    refine WL.val run_assign rfl rfl ?_
    refine WL.val run_assign rfl rfl ?_
    refine WL.nil ?_
    refine W.seq ?_
    refine W.region ?_
    refine WL.val run_move rfl rfl ?_
    refine WL.val run_move rfl rfl ?_
    refine WL.val (run_convIn (n := ((beV (b.take 4) : Nat) : Int)) Tryz.underlying23 Tryz.underlying126 rfl (by show (0 : Int) ≤ _; omega) (by show _ ≤ (4294967295 : Int); omega)) rfl rfl ?_
    refine WL.val (run_nilCheck rfl) rfl rfl ?_
    refine WL.val (run_fieldAddr 10 Tryz.underlying152 rfl Tryz.sizeOf126 rfl rfl) rfl rfl ?_
    refine WL.eff (eff_store (v := .int .u32 ((beV (b.take 4) : Nat) : Int)) h Tryz.sizeOf126 rfl rfl rfl rfl rfl) rfl rfl ?_
    rintro _ w h
    have h : On W0 (blk b4 (tK b 0).cells 152 :: _) w := h
    refine WL.nil ?_
    refine W.seq ?_
    refine W.seq ?_
    refine W.region ?_
    refine WL.val run_move rfl rfl ?_
    refine WL.nil ?_
    refine W.block ?_
    refine W.loop (fun (k : Nat) env w => k ≤ 8 ∧ ∃ j, env = mkE j [(0, .slice (some ⟨ba, oa, none⟩) b.length cb), (4, .pointer (some ⟨b4, 0, none⟩)), (23, .int .i64 (k : Int))] ∧ On W0 (blk b4 (tK b k).cells 152 :: L) w) (fun k => 8 - k) (0) ?_ ?_
    · exact ⟨Nat.zero_le _, _, mkE_of ⟨rfl, rfl, rfl, trivial⟩, h.to⟩
    · rintro k env w ⟨hk8, j, rfl, h⟩
      refine W.seq ?_
      refine W.region ?_
      refine WL.val (run_lss rfl rfl) rfl rfl ?_
      refine WL.nil ?_
      refine W.seq ?_
      refine W.condIf rfl (fun c13 => ?_) (fun c13 => ?_)
      · skip
        refine W.skip ?_
        refine W.seq ?_
        have hk7 : k < 8 := by omega
        refine W.block ?_
        refine W.seq ?_
        refine W.region ?_
        refine WL.val run_move rfl rfl ?_
        refine WL.val run_assign rfl rfl ?_
        refine WL.nil ?_
        refine W.draw Tryz.follows h (fun w h => ?_)
        refine WT.pure 0 rfl (by kernel_rfl) (fun w' => run_move) rfl rfl ?_
        refine WT.pure 1 rfl (by kernel_rfl) (fun w' => run_move) rfl rfl ?_
        refine WT.pure 2 rfl (by kernel_rfl) (fun w' => run_move) rfl rfl ?_
        refine WT.pure 3 rfl (by kernel_rfl) (fun w' => run_move) rfl rfl ?_
        refine WT.pure 4 rfl (by kernel_rfl) (fun w' => (run_mulN (m := 8) (n := k) rfl rfl (by omega))) rfl rfl ?_
        refine WT.pure 5 rfl (by kernel_rfl) (fun w' => (run_addN (m := 4) (n := 8 * k) rfl rfl (by omega))) rfl rfl ?_
        refine WT.pure 10 rfl (by kernel_rfl) (fun w' => (run_nilCheck rfl)) rfl rfl ?_
        refine WT.pure 11 rfl (by kernel_rfl) (fun w' => (run_fieldAddr 0 Tryz.underlying152 rfl Tryz.sizeOf102 rfl rfl)) rfl rfl ?_
        refine WT.eff 6 [] rfl (by kernel_rfl) (by kernel_rfl) (eff_call Tryz.call80 (bget_ok (at_ := ((4 + 8 * k : Nat) : Int)) (n := ((8 : Nat) : Int)) (bs := b) h (Gives.to C))) rfl rfl ?_
        rintro _ w hg
        rcases hg with ⟨hok, rfl, h⟩ | ⟨hno, _, _⟩
        rotate_left
        · exact absurd (show _ by omega) hno
        refine ⟨trivial, ?_⟩
        refine WT.pure 7 rfl (by kernel_rfl) (fun w' => run_move) rfl rfl ?_
        refine WT.pure 8 rfl (by kernel_rfl) (fun w' => (run_extract rfl rfl)) rfl rfl ?_
        refine WT.pure 9 rfl (by kernel_rfl) (fun w' => (run_extract rfl rfl)) rfl rfl ?_
        refine WT.pure 12 rfl (by kernel_rfl) (fun w' => (run_indexAddrArr Tryz.underlying102 Tryz.sizeOf23 rfl rfl (by omega) (by omega))) rfl rfl ?_
        refine WT.eff 13 [] rfl (by kernel_rfl) (by kernel_rfl) (eff_store (v := .int .u64 (kAt b k)) h Tryz.sizeOf23 rfl rfl rfl (cells_lt hk7) (free0 _)) rfl rfl ?_
        rintro _ w h
        rw [cells_set hk7, tK_put] at h
        refine ⟨trivial, ?_⟩
        refine WT.done (by kernel_rfl) ?_
        refine W.region ?_
        refine WL.val (run_incN rfl rfl (by omega)) rfl rfl ?_
        refine WL.val run_move rfl rfl ?_
        refine WL.nil ?_
        -- round, path FLT
        exact ⟨k + 1, ⟨by omega, _, mkE_of ⟨rfl, rfl, rfl, trivial⟩, h.to⟩, by show 8 - (k + 1) < 8 - k; omega⟩
      · skip
        refine W.exit ?_
        refine W.seq ?_
        refine W.seq ?_
        have ob_ : k = 8 := by omega
        obtain rfl := ob_
        refine W.region ?_
        refine WL.val run_move rfl rfl ?_
        refine WL.val run_move rfl rfl ?_
        refine WL.val (run_lenSlice Tryz.underlying22 rfl) rfl rfl ?_
        refine WL.val (run_subNV (m := b.length) (n := 2) (r := 68) rfl rfl (by omega) (by omega) (by omega)) rfl rfl ?_
        refine WL.val (run_indexAddr Tryz.underlying22 Tryz.sizeOf5 rfl rfl (by omega) (by omega)) rfl rfl ?_
        refine WL.val (run_load1 Tryz.isAgg5 rfl ((h.readsTo C).elem (i := 68) (vs := [.int .u8 (x68.toNat : Int)]) (by omega) (bytes_row h68) 0 _ rfl)) rfl rfl ?_
        refine WL.val (run_convInt64 Tryz.underlying5 Tryz.underlying3 rfl (by omega) (by omega)) rfl rfl ?_
        refine WL.val run_assign rfl rfl ?_
        refine WL.nil ?_
        refine W.seq ?_
        refine W.region ?_
        refine WL.val run_move rfl rfl ?_
        refine WL.dec (run_lss rfl rfl) rfl rfl (fun c48 => ?_) (fun c48 => ?_)
        · skip
          refine WL.val run_move rfl rfl ?_
          refine WL.val run_move rfl rfl ?_
          refine WL.val run_move rfl rfl ?_
          refine WL.val (run_nilCheck rfl) rfl rfl ?_
          refine WL.val (run_fieldAddr 0 Tryz.underlying152 rfl Tryz.sizeOf102 rfl rfl) rfl rfl ?_
          refine WL.val (run_indexAddrArr Tryz.underlying102 Tryz.sizeOf23 rfl rfl (by omega) (by omega)) rfl rfl ?_
          refine WL.val (run_load1 Tryz.isAgg23 rfl (h.cellB (cells_at (i := x68.toNat) (by omega)))) rfl rfl ?_
          refine WL.dec (run_neq rfl rfl) rfl rfl (fun c56 => ?_) (fun c56 => ?_)
          · skip
            refine WL.val (run_pickT rfl) rfl rfl ?_
            refine WL.val run_move rfl rfl ?_
            refine WL.val run_move rfl rfl ?_
            refine WL.val run_move rfl rfl ?_
            refine WL.val (run_lenSlice Tryz.underlying22 rfl) rfl rfl ?_
            refine WL.val (run_subNV (m := b.length) (n := 1) (r := 69) rfl rfl (by omega) (by omega) (by omega)) rfl rfl ?_
            refine WL.val (run_indexAddr Tryz.underlying22 Tryz.sizeOf5 rfl rfl (by omega) (by omega)) rfl rfl ?_
            refine WL.val (run_load1 Tryz.isAgg5 rfl ((h.readsTo C).elem (i := 69) (vs := [.int .u8 (x69.toNat : Int)]) (by omega) (bytes_row h69) 0 _ rfl)) rfl rfl ?_
            refine WL.val (run_convInt64 Tryz.underlying5 Tryz.underlying3 rfl (by omega) (by omega)) rfl rfl ?_
            refine WL.eff (eff_call Tryz.call84 (typed_ok h)) rfl rfl ?_
            rintro _ w ⟨hv, h⟩
            have hcs := Bool.eq_false_or_eq_true (typedB ((x69.toNat : Nat) : Int))
            rcases hcs with hty | hty <;> (rw [hty] at hv; subst hv)
            · skip
              refine WL.val (run_pickT rfl) rfl rfl ?_
              refine WL.nil ?_
              refine W.condT rfl ?_
              refine W.region ?_
              refine WL.val run_move rfl rfl ?_
              refine WL.val run_move rfl rfl ?_
              refine WL.val run_move rfl rfl ?_
              refine WL.val run_move rfl rfl ?_
              refine WL.val run_move rfl rfl ?_
              refine WL.val (run_lenSlice Tryz.underlying22 rfl) rfl rfl ?_
              refine WL.val (run_subNV (m := b.length) (n := 1) (r := 69) rfl rfl (by omega) (by omega) (by omega)) rfl rfl ?_
              refine WL.val (run_indexAddr Tryz.underlying22 Tryz.sizeOf5 rfl rfl (by omega) (by omega)) rfl rfl ?_
              refine WL.val (run_load1 Tryz.isAgg5 rfl ((h.readsTo C).elem (i := 69) (vs := [.int .u8 (x69.toNat : Int)]) (by omega) (bytes_row h69) 0 _ rfl)) rfl rfl ?_
              refine WL.val (run_convInt64 Tryz.underlying5 Tryz.underlying3 rfl (by omega) (by omega)) rfl rfl ?_
              refine WL.val (run_nilCheck rfl) rfl rfl ?_
              refine WL.val (run_fieldAddr 8 Tryz.underlying152 rfl Tryz.sizeOf3 rfl rfl) rfl rfl ?_
              refine WL.eff (eff_store (v := .int .i64 _) h Tryz.sizeOf3 rfl rfl rfl rfl rfl) rfl rfl ?_
              rintro _ w h
              try simp only [Nat.zero_add, Nat.add_zero, List.set_cons_zero, List.set_cons_succ] at h
              refine WL.val (run_nilCheck rfl) rfl rfl ?_
              refine WL.val (run_fieldAddr 9 Tryz.underlying152 rfl Tryz.sizeOf3 rfl rfl) rfl rfl ?_
              refine WL.eff (eff_store (v := .int .i64 _) h Tryz.sizeOf3 rfl rfl rfl rfl rfl) rfl rfl ?_
              rintro _ w h
              try simp only [Nat.zero_add, Nat.add_zero, List.set_cons_zero, List.set_cons_succ] at h
              refine WL.nil ?_
              refine W.seq ?_
              refine W.seq ?_
              have hdec : decT0 b = (tK b 8).take ((x68.toNat : Nat) : Int) ((x69.toNat : Nat) : Int) := by unfold decT0; rw [e68, e69, if_pos ⟨by omega, c56, hty⟩]
              have h : On W0 (blk b4 ((tK b 8).take ((x68.toNat : Nat) : Int) ((x69.toNat : Nat) : Int)).cells 152 :: _) w := h
              rw [← hdec] at h
              refine W.region ?_
              refine WL.val run_move rfl rfl ?_
              refine WL.eff (eff_call Tryz.call77 (rencode_ok (b := b4) (t := decT0 b) (decT0_ok b) (h.fetch (blk b4 (decT0 b).cells 152)))) rfl rfl ?_
              rintro _ w ⟨a83, c83, rfl, h⟩
              refine WL.val run_move rfl rfl ?_
              refine WL.eff (eff_call Tryz.call34 (bequal_ok (bs := encT (decT0 b)) (cs := b) h (Gives.ownO (v := .slice a83 (encT (decT0 b)).length c83)) (Gives.to C))) rfl rfl ?_
              rintro _ w ⟨hv, h⟩
              have hcs := Bool.eq_false_or_eq_true (decide (encT (decT0 b) = b))
              rcases hcs with heq | heq <;> (rw [heq] at hv; subst hv)
              · skip
                refine WL.val (run_not rfl) rfl rfl ?_
                refine WL.nil ?_
                refine W.condF rfl ?_
                refine W.skip ?_
                refine W.seq ?_
                refine W.region ?_
                refine WL.val run_move rfl rfl ?_
                refine WL.val run_assign rfl rfl ?_
                refine WL.val run_assign rfl rfl ?_
                refine WL.nil ?_
                refine W.ret ?_
                refine bodyQ.r2 (v1 := .pointer _) (v2 := .int .i64 _) Tryz.results31 rfl rfl ?_
                -- path FLFTTTT
                have he := of_decide_eq_true heq
                exact .inl ⟨decT0 b, b4, by unfold decT; rw [if_pos ⟨hb70, he⟩], rfl, h.to⟩
              · skip
                refine WL.val (run_not rfl) rfl rfl ?_
                refine WL.nil ?_
                refine W.condT rfl ?_
                refine W.seq ?_
                refine W.region ?_
                refine WL.val run_assign rfl rfl ?_
                refine WL.val run_assign rfl rfl ?_
                refine WL.nil ?_
                refine W.ret ?_
                refine bodyQ.r2 (v1 := .pointer _) (v2 := .int .i64 _) Tryz.results31 rfl rfl ?_
                -- path FLFTTTF
                have he := of_decide_eq_false heq
                exact .inr ⟨by unfold decT; rw [if_neg (fun hh => he hh.2)], rfl, h.to⟩
            · skip
              refine WL.val (run_pickT rfl) rfl rfl ?_
              refine WL.nil ?_
              refine W.condF rfl ?_
              refine W.skip ?_
              refine W.seq ?_
              refine W.seq ?_
              have hdec : decT0 b = tK b 8 := by unfold decT0; rw [e68, e69, if_neg (fun hh => by rw [hty] at hh; cases hh.2.2)]
              rw [← hdec] at h
              refine W.region ?_
              refine WL.val run_move rfl rfl ?_
              refine WL.eff (eff_call Tryz.call77 (rencode_ok (b := b4) (t := decT0 b) (decT0_ok b) (h.fetch (blk b4 (decT0 b).cells 152)))) rfl rfl ?_
              rintro _ w ⟨a83, c83, rfl, h⟩
              refine WL.val run_move rfl rfl ?_
              refine WL.eff (eff_call Tryz.call34 (bequal_ok (bs := encT (decT0 b)) (cs := b) h (Gives.ownO (v := .slice a83 (encT (decT0 b)).length c83)) (Gives.to C))) rfl rfl ?_
              rintro _ w ⟨hv, h⟩
              have hcs := Bool.eq_false_or_eq_true (decide (encT (decT0 b) = b))
              rcases hcs with heq | heq <;> (rw [heq] at hv; subst hv)
              · skip
                refine WL.val (run_not rfl) rfl rfl ?_
                refine WL.nil ?_
                refine W.condF rfl ?_
                refine W.skip ?_
                refine W.seq ?_
                refine W.region ?_
                refine WL.val run_move rfl rfl ?_
                refine WL.val run_assign rfl rfl ?_
                refine WL.val run_assign rfl rfl ?_
                refine WL.nil ?_
                refine W.ret ?_
                refine bodyQ.r2 (v1 := .pointer _) (v2 := .int .i64 _) Tryz.results31 rfl rfl ?_
                -- path FLFTTFT
                have he := of_decide_eq_true heq
                exact .inl ⟨decT0 b, b4, by unfold decT; rw [if_pos ⟨hb70, he⟩], rfl, h.to⟩
              · skip
                refine WL.val (run_not rfl) rfl rfl ?_
                refine WL.nil ?_
                refine W.condT rfl ?_
                refine W.seq ?_
                refine W.region ?_
                refine WL.val run_assign rfl rfl ?_
                refine WL.val run_assign rfl rfl ?_
                refine WL.nil ?_
                refine W.ret ?_
                refine bodyQ.r2 (v1 := .pointer _) (v2 := .int .i64 _) Tryz.results31 rfl rfl ?_
                -- path FLFTTFF
                have he := of_decide_eq_false heq
                exact .inr ⟨by unfold decT; rw [if_neg (fun hh => he hh.2)], rfl, h.to⟩
          · skip
            refine WL.val (run_pickT rfl) rfl rfl ?_
            refine WL.val run_move rfl rfl ?_
            refine WL.skip rfl rfl ?_
            refine WL.skip rfl rfl ?_
            refine WL.skip rfl rfl ?_
            refine WL.skip rfl rfl ?_
            refine WL.skip rfl rfl ?_
            refine WL.skip rfl rfl ?_
            refine WL.skip rfl rfl ?_
            refine WL.skip rfl rfl ?_
            refine WL.val (run_pickF rfl) rfl rfl ?_
            refine WL.nil ?_
            refine W.condF rfl ?_
            refine W.skip ?_
            refine W.seq ?_
            refine W.seq ?_
            have hdec : decT0 b = tK b 8 := by unfold decT0; rw [e68, e69, if_neg (fun hh => c56 hh.2.1)]
            rw [← hdec] at h
            refine W.region ?_
            refine WL.val run_move rfl rfl ?_
            refine WL.eff (eff_call Tryz.call77 (rencode_ok (b := b4) (t := decT0 b) (decT0_ok b) (h.fetch (blk b4 (decT0 b).cells 152)))) rfl rfl ?_
            rintro _ w ⟨a83, c83, rfl, h⟩
            refine WL.val run_move rfl rfl ?_
            refine WL.eff (eff_call Tryz.call34 (bequal_ok (bs := encT (decT0 b)) (cs := b) h (Gives.ownO (v := .slice a83 (encT (decT0 b)).length c83)) (Gives.to C))) rfl rfl ?_
            rintro _ w ⟨hv, h⟩
            have hcs := Bool.eq_false_or_eq_true (decide (encT (decT0 b) = b))
            rcases hcs with heq | heq <;> (rw [heq] at hv; subst hv)
            · skip
              refine WL.val (run_not rfl) rfl rfl ?_
              refine WL.nil ?_
              refine W.condF rfl ?_
              refine W.skip ?_
              refine W.seq ?_
              refine W.region ?_
              refine WL.val run_move rfl rfl ?_
              refine WL.val run_assign rfl rfl ?_
              refine WL.val run_assign rfl rfl ?_
              refine WL.nil ?_
              refine W.ret ?_
              refine bodyQ.r2 (v1 := .pointer _) (v2 := .int .i64 _) Tryz.results31 rfl rfl ?_
              -- path FLFTFT
              have he := of_decide_eq_true heq
              exact .inl ⟨decT0 b, b4, by unfold decT; rw [if_pos ⟨hb70, he⟩], rfl, h.to⟩
            · skip
              refine WL.val (run_not rfl) rfl rfl ?_
              refine WL.nil ?_
              refine W.condT rfl ?_
              refine W.seq ?_
              refine W.region ?_
              refine WL.val run_assign rfl rfl ?_
              refine WL.val run_assign rfl rfl ?_
              refine WL.nil ?_
              refine W.ret ?_
              refine bodyQ.r2 (v1 := .pointer _) (v2 := .int .i64 _) Tryz.results31 rfl rfl ?_
              -- path FLFTFF
              have he := of_decide_eq_false heq
              exact .inr ⟨by unfold decT; rw [if_neg (fun hh => he hh.2)], rfl, h.to⟩
        · skip
          refine WL.val run_move rfl rfl ?_
          refine WL.skip rfl rfl ?_
          refine WL.skip rfl rfl ?_
          refine WL.skip rfl rfl ?_
          refine WL.skip rfl rfl ?_
          refine WL.skip rfl rfl ?_
          refine WL.skip rfl rfl ?_
          refine WL.skip rfl rfl ?_
          refine WL.val (run_pickF rfl) rfl rfl ?_
          refine WL.val run_move rfl rfl ?_
          refine WL.skip rfl rfl ?_
          refine WL.skip rfl rfl ?_
          refine WL.skip rfl rfl ?_
          refine WL.skip rfl rfl ?_
          refine WL.skip rfl rfl ?_
          refine WL.skip rfl rfl ?_
          refine WL.skip rfl rfl ?_
          refine WL.skip rfl rfl ?_
          refine WL.val (run_pickF rfl) rfl rfl ?_
          refine WL.nil ?_
          refine W.condF rfl ?_
          refine W.skip ?_
          refine W.seq ?_
          refine W.seq ?_
          have hdec : decT0 b = tK b 8 := by unfold decT0; rw [e68, e69, if_neg (fun hh => c48 (by omega))]
          rw [← hdec] at h
          refine W.region ?_
          refine WL.val run_move rfl rfl ?_
          refine WL.eff (eff_call Tryz.call77 (rencode_ok (b := b4) (t := decT0 b) (decT0_ok b) (h.fetch (blk b4 (decT0 b).cells 152)))) rfl rfl ?_
          rintro _ w ⟨a83, c83, rfl, h⟩
          refine WL.val run_move rfl rfl ?_
          refine WL.eff (eff_call Tryz.call34 (bequal_ok (bs := encT (decT0 b)) (cs := b) h (Gives.ownO (v := .slice a83 (encT (decT0 b)).length c83)) (Gives.to C))) rfl rfl ?_
          rintro _ w ⟨hv, h⟩
          have hcs := Bool.eq_false_or_eq_true (decide (encT (decT0 b) = b))
          rcases hcs with heq | heq <;> (rw [heq] at hv; subst hv)
          · skip
            refine WL.val (run_not rfl) rfl rfl ?_
            refine WL.nil ?_
            refine W.condF rfl ?_
            refine W.skip ?_
            refine W.seq ?_
            refine W.region ?_
            refine WL.val run_move rfl rfl ?_
            refine WL.val run_assign rfl rfl ?_
            refine WL.val run_assign rfl rfl ?_
            refine WL.nil ?_
            refine W.ret ?_
            refine bodyQ.r2 (v1 := .pointer _) (v2 := .int .i64 _) Tryz.results31 rfl rfl ?_
            -- path FLFFT
            have he := of_decide_eq_true heq
            exact .inl ⟨decT0 b, b4, by unfold decT; rw [if_pos ⟨hb70, he⟩], rfl, h.to⟩
          · skip
            refine WL.val (run_not rfl) rfl rfl ?_
            refine WL.nil ?_
            refine W.condT rfl ?_
            refine W.seq ?_
            refine W.region ?_
            refine WL.val run_assign rfl rfl ?_
            refine WL.val run_assign rfl rfl ?_
            refine WL.nil ?_
            refine W.ret ?_
            refine bodyQ.r2 (v1 := .pointer _) (v2 := .int .i64 _) Tryz.results31 rfl rfl ?_
            -- path FLFFF
            have he := of_decide_eq_false heq
            exact .inr ⟨by unfold decT; rw [if_neg (fun hh => he hh.2)], rfl, h.to⟩

end Go.Proofs.YtdpakoefdpmebaaGreat
