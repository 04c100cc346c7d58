/-
  A unit: blocks read: the contracts. Lines of walks printed by a program of the prover's.
-/
import Derived.Test.YtjbgiingimhnnaaGreatUnitTwinsFQ6
import Derived.Test.YtjbgiingimhnnaaGreatUnitTwinsFQ3
import Derived.KernelRfl
import Derived.Test.YtjbgiingimhnnaaGreatUnitTwinsFQ1
namespace Go.Proofs.YtjbgiingimhnnaaGreat
open Go.Proofs.Tryz
open Go Go.Sl Go.Sl.BitM Go.Sl.SpM Go.Sl.RsM Go.Sl.ByM Go.Sl.UnM
set_option linter.unusedVariables false
set_option linter.unusedSimpArgs false
set_option maxHeartbeats 1000000
set_option maxRecDepth 8000
variable {W0 w : World} {L F : List HProp}
theorem sdecode_ok [tF : To L F] {cb : Nat} {ab : Option Addr} {b : List UInt8} (hb : b.length ≤ 100000) (h : On W0 L w) (C : Gives F (Bytes (.slice ab b.length cb) b)) : Calls Tryz.prog 19 #[.slice ab b.length cb] w (Ret fun v w' => (∃ s bs, decS b = some s ∧ capS s ∧ v = .tuple #[.pointer (some ⟨bs, 0, none⟩), .int .i64 0] ∧ On W0 (SpP 105 bs s :: L) w') ∨ (decS b = none ∧ v = .tuple #[.pointer none, .int .i64 2] ∧ On W0 L w')) := by
  refine enter func19 rfl ntmps19 rfl ?_
  have hmx := maxLen_eq
  have hnl := nB_lt b
  have ob_ := Cells.bounds (h.readsTo C)
  obtain ⟨hbc, hbm⟩ := ob_
  refine W.seq (W.region (WL.val run_assign rfl rfl (WL.val run_assign rfl rfl (WL.nil (W.seq (W.region (WL.val run_move rfl rfl ?_)))))))
  refine WL.eff (eff_call call52 (bget_ok (at_ := ((0 : Nat) : Int)) (n := ((2 : Nat) : Int)) (bs := b) h (Gives.to C))) rfl rfl ?_
  rintro v13 w hg
  have hg2 : ∃ okk : Bool, v13 = .tuple #[.int .u64 ((nB b : Nat) : Int), .bool okk] ∧ On W0 L w := by
    rcases hg with ⟨hok, hv, h⟩ | ⟨hno, hv, h⟩
    · have e : nB b = beV ((b.drop ((0 : Nat) : Int).toNat).take ((2 : Nat) : Int).toNat) := by unfold nB; rw [if_pos (by omega)]; simp
      exact ⟨true, by rw [hv, e], h⟩
    · have e : nB b = 0 := by unfold nB; rw [if_neg (by omega)]
      exact ⟨false, by rw [hv, e]; rfl, h⟩
  obtain ⟨okk, hv13, h⟩ := hg2
  subst hv13
  refine WL.val run_move rfl rfl (WL.val (run_extract rfl rfl) rfl rfl (WL.val (run_extract rfl rfl) rfl rfl (WL.val run_assign rfl rfl (WL.val run_assign rfl rfl (WL.nil (W.seq (W.region ?_)))))))
  refine WL.val run_move rfl rfl (WL.val (run_convInt64 underlying23 underlying3 rfl (by omega) (by omega)) rfl rfl (WL.eff (eff_call call32 (snew_ok (n := ((nB b : Nat) : Int)) h)) rfl rfl ?_))
  rintro _ w hv
  rcases hv with ⟨N, hN, h1N, hN2, bs, rfl, h⟩ | ⟨hno, rfl, h⟩
  ·
   have hNn : N = nB b := by omega
   subst hNn
   have ob_ := openS h
   obtain ⟨gd, od, cd, am, cm, hw, h⟩ := ob_
   have ob_ := Own.bounds h.p1
   obtain ⟨hdc, hdm⟩ := ob_
   have hml : (newS (nB b)).m.length = (nB b + 7) / 8 := List.length_replicate
   have ob2_ := Own.addr h.p2 (by rw [hml]; omega)
   obtain ⟨gm, om, ham⟩ := ob2_
   subst ham
   refine WL.val run_move rfl rfl (WL.val (run_extract rfl rfl) rfl rfl (WL.val (run_extract rfl rfl) rfl rfl (WL.val run_assign rfl rfl (WL.val run_assign rfl rfl (WL.nil (W.seq (W.seq ?_)))))))
   refine W.region (WL.val run_move rfl rfl (WL.val (run_neqF rfl rfl (by decide)) rfl rfl (WL.val run_move rfl rfl (WL.val run_move rfl rfl (WL.val (run_lenSlice underlying22 rfl) rfl rfl (WL.val run_move rfl rfl (WL.val (run_nilCheck rfl) rfl rfl ?_)))))))
   refine WL.val (run_fieldAddr 2 underlying105 rfl sizeOf103 rfl rfl) rfl rfl (WL.val (run_load1 isAgg103 rfl (h.cellB rfl)) rfl rfl (WL.val (run_lenSlice underlying103 rfl) rfl rfl (WL.val (run_addN (m := 2) (n := (newS (nB b)).m.length) rfl rfl (by omega)) rfl rfl ?_)))
   refine WL.dec (run_lss rfl rfl) rfl rfl (fun c33 => ?_) (fun c33 => ?_)
   ·
    refine WL.val (run_pickF rfl) rfl rfl (WL.nil (W.condT rfl (W.seq (W.region (WL.val run_assign rfl rfl (WL.val run_assign rfl rfl (WL.nil ?_)))))))
    refine W.ret (bodyQ.r2 (v1 := .pointer _) (v2 := .int .i64 _) results19 rfl rfl ?_)
    exact .inr ⟨by unfold decS decS0; rw [if_neg (fun hh => by have := hh.2; rw [hml] at c33; omega)]; rfl, rfl, h.to⟩
   refine WL.val (run_pickF rfl) rfl rfl (WL.nil (W.condF rfl (W.skip (W.seq ?_))))
   have h2b : 2 + (nB b + 7) / 8 ≤ b.length := by rw [hml] at c33; omega
   have hmB := mB_len h2b
   have hmm : (newS (nB b)).m.length = (mB b).length := by rw [hml, hmB]
   have ob_ := cut_gives (k := 2) C (by omega) hbc
   obtain ⟨a2, c2, hcut2, C2⟩ := ob_
   have ob_ := cut_gives (k := 2 + (nB b + 7) / 8) C h2b hbc
   obtain ⟨ar, cr, hcutR, CR⟩ := ob_
   have h2o : (2 : Nat) ≤ b.length := by omega
   have hdc2 : 8 * nB b ≤ cd := hdc
   refine W.draw Tryz.follows h (fun w h => ?_)
   refine WT.pure 0 rfl (by kernel_rfl) (fun w' => run_move) rfl rfl (WT.pure 1 rfl (by kernel_rfl) (fun w' => run_move) rfl rfl (WT.pure 2 rfl (by kernel_rfl) (fun w' => (run_nilCheck rfl)) rfl rfl (WT.pure 3 rfl (by kernel_rfl) (fun w' => (run_fieldAddr 2 underlying105 rfl sizeOf103 rfl rfl)) rfl rfl (WT.load1 4 rfl (by kernel_rfl) isAgg103 rfl (h.cellB rfl) rfl rfl (WT.pure 5 rfl (by kernel_rfl) (fun w' => run_move) rfl rfl (WT.pure 6 rfl (by kernel_rfl) (fun w' => (run_cutLV (l := 2) underlying22 sizeOf5 rfl rfl h2o hcut2)) rfl rfl (WT.eff 7 [false] rfl (by kernel_rfl) (by kernel_rfl) (eff_copyIn (lo := 0) (m := (newS (nB b)).m.length) (h.fetch (Own 1 (.slice (some ⟨gm, om, none⟩) (newS (nB b)).m.length cm) (newS (nB b)).m.length (bytesV (newS (nB b)).m))) rfl rfl (h.readsTo C2) rfl underlying103 sizeOf5 (by omega) bytes_one) rfl rfl ?_)))))))
   rintro v42 w ⟨hv42, h⟩
   have hmin : min (b.drop 2).length (newS (nB b)).m.length = (nB b + 7) / 8 := by rw [hml, List.length_drop]; omega
   rw [hmin] at hv42 h
   have hsp : splice (bytesV (newS (nB b)).m) 0 ((bytesV (b.drop 2)).take ((nB b + 7) / 8)) = bytesV (mB b) := by
     have e1 : (bytesV (b.drop 2)).take ((nB b + 7) / 8) = bytesV (mB b) := by unfold mB bytesV; rw [List.map_take]
     rw [e1]
     unfold splice
     rw [List.take_zero, List.nil_append, Nat.zero_add, List.drop_eq_nil_of_le (by unfold bytesV; rw [List.length_map, List.length_map, hmm]; exact Nat.le_refl _), List.append_nil]
   rw [hsp, hmm] at h
   subst hv42
   refine ⟨trivial, ?_⟩
   refine WT.pure 8 rfl (by kernel_rfl) (fun w' => (run_addN (m := 2) (n := (nB b + 7) / 8) rfl rfl (by omega))) rfl rfl (WT.pure 9 rfl (by kernel_rfl) (fun w' => (run_cutLV (l := 2 + (nB b + 7) / 8) underlying22 sizeOf5 rfl rfl h2b hcutR)) rfl rfl (WT.pure 10 rfl (by kernel_rfl) (fun w' => run_assign) rfl rfl (WT.done (by kernel_rfl) (W.seq (W.seq ?_)))))
   have h := h.fetch (blk bs [.int .i64 ((newS (nB b)).N : Int), .slice (some ⟨gd, od, none⟩) (8 * (newS (nB b)).N) cd, .slice (some ⟨gm, om, none⟩) (mB b).length cm] 105)
   have h : On W0 (blk bs [.int .i64 (nB b : Int), .slice (some ⟨gd, od, none⟩) (8 * nB b) cd, .slice (some ⟨gm, om, none⟩) (mB b).length cm] 105 :: Own 1 (.slice (some ⟨gm, om, none⟩) (mB b).length cm) (mB b).length (bytesV (mB b)) :: Own 1 (.slice (some ⟨gd, od, none⟩) (8 * nB b) cd) (8 * nB b) (bytesV (List.replicate (8 * nB b) 0)) :: L) w := h
   refine W.region (WL.val run_move rfl rfl (WL.val (run_nilCheck rfl) rfl rfl (WL.val (run_fieldAddr 2 underlying105 rfl sizeOf103 rfl rfl) rfl rfl (WL.val (run_load1 isAgg103 rfl (h.cellB rfl)) rfl rfl (WL.eff (eff_call call53 (runs_ok (m := mB b) h (Gives.ownO (v := .slice (some ⟨gm, om, none⟩) (mB b).length cm)) (by omega))) rfl rfl ?_)))))
   rintro _ w ⟨Rr, a49, rfl, rfl, hR, h⟩
   refine WL.val (run_lenSlice underlying106 rfl) rfl rfl (WL.val run_move rfl rfl (WL.nil (W.block ?_)))
   refine W.loop (fun (k : Nat) env w => k ≤ (rowsOf (mB b)).length ∧ ∃ (j : Env) (s : Sp) (rest : List UInt8) (ar : Option Addr) (cr : Nat), s.N = nB b ∧ s.m = mB b ∧ s.d.length = 8 * nB b ∧ rest.length ≤ 100000 ∧ Gives F (Bytes (.slice ar rest.length cr) rest) ∧ decRows ((rowsOf (mB b)).drop k) s rest = decRows (rowsOf (mB b)) (⟨nB b, List.replicate (8 * nB b) 0, mB b⟩ : Sp) (b.drop (2 + (nB b + 7) / 8)) ∧ (∀ r ∈ (rowsOf (mB b)).take k, r.1 + r.2 ≤ nB b) ∧ env = mkE j [(0, .slice ab b.length cb), (6, .pointer (some ⟨bs, 0, none⟩)), (8, .slice ar rest.length cr), (49, .slice a49 (rowsOf (mB b)).length (rowsOf (mB b)).length), (50, .int .i64 ((rowsOf (mB b)).length : Nat)), (51, .int .i64 (k : Nat))] ∧ On W0 (blk bs [.int .i64 (nB b : Int), .slice (some ⟨gd, od, none⟩) (8 * nB b) cd, .slice (some ⟨gm, om, none⟩) (mB b).length cm] 105 :: Own 1 (.slice (some ⟨gm, om, none⟩) (mB b).length cm) (mB b).length (bytesV (mB b)) :: Own 1 (.slice (some ⟨gd, od, none⟩) (8 * nB b) cd) (8 * nB b) (bytesV s.d) :: Own 2 (.slice a49 (rowsOf (mB b)).length (rowsOf (mB b)).length) (rowsOf (mB b)).length ((rowsOf (mB b)).flatMap rowc) :: L) w) (fun k => (rowsOf (mB b)).length - k) (0) ?_ ?_
   · exact ⟨Nat.zero_le _, _, (⟨nB b, List.replicate (8 * nB b) 0, mB b⟩ : Sp), (b.drop (2 + (nB b + 7) / 8)), ar, cr, rfl, rfl, List.length_replicate, by rw [List.length_drop]; omega, CR, rfl, (fun r hr => by cases hr), mkE_of ⟨rfl, rfl, rfl, rfl, rfl, rfl, trivial⟩, h.to⟩
   clear h
   rintro k env w ⟨hkr, j, s, rest, ar, cr, hsN, hsm, hsd, hrl, CR, hD, hin, rfl, h⟩
   refine W.seq (W.region (WL.val (run_lss rfl rfl) rfl rfl (WL.nil (W.seq ?_))))
   refine W.condIf rfl (fun c13 => ?_) (fun c13 => ?_)
   ·
    refine W.skip (W.seq ?_)
    have hkl : k < (rowsOf (mB b)).length := by omega
    have ob_ : ∃ r, (rowsOf (mB b))[k]? = some r := ⟨(rowsOf (mB b))[k], by simp⟩
    obtain ⟨r, hr⟩ := ob_
    have haa := (h.cellsO (v := .slice a49 (rowsOf (mB b)).length (rowsOf (mB b)).length)).addr (by omega)
    obtain ⟨b9, o9, ha9⟩ := haa
    subst ha9
    have hpos := (hR.pos r (List.mem_of_getElem? hr)).2
    rw [hmB] at hpos
    have hfew := hR.few
    rw [hmB] at hfew
    refine W.block (W.seq (W.region (WL.val (run_indexAddr underlying106 sizeOf108 rfl rfl (by omega) (by omega)) rfl rfl (WL.val (run_loadN isAgg108 sizeOf108 rfl rfl ((h.cellsO (v := .slice (some ⟨b9, o9, none⟩) (rowsOf (mB b)).length (rowsOf (mB b)).length)).elem (i := k) (vs := rowc r) hkl (drop_flatMap rowc 2 rowc_length (rowsOf (mB b)) _ _ hr))) rfl rfl (WL.eff (eff_alloc h zeroValue108 rfl) rfl rfl ?_)))))
    rintro _ w ⟨b10, rfl, h⟩
    refine WL.eff (eff_storeN (vs := rowc r) h sizeOf108 rfl rfl rfl rfl rfl (fun k _ _ => free0 k)) rfl rfl ?_
    rintro _ w h
    have h : On W0 (blk b10 (rowc r) 108 :: _) w := h
    refine WL.nil (W.seq (W.seq ?_))
    refine W.draw Tryz.follows h (fun w h => ?_)
    refine WT.pure 0 rfl (by kernel_rfl) (fun w' => (run_indexAddrArr underlying108 sizeOf3 rfl rfl (by omega) (by omega))) rfl rfl (WT.load1 1 rfl (by kernel_rfl) isAgg3 rfl (h.cellB rfl) rfl rfl (WT.pure 2 rfl (by kernel_rfl) (fun w' => (run_indexAddrArr underlying108 sizeOf3 rfl rfl (by omega) (by omega))) rfl rfl (WT.load1 3 rfl (by kernel_rfl) isAgg3 rfl (h.cellB rfl) rfl rfl (WT.pure 4 rfl (by kernel_rfl) (fun w' => (run_addN (m := r.1) (n := r.2) rfl rfl (by omega))) rfl rfl (WT.pure 5 rfl (by kernel_rfl) (fun w' => run_move) rfl rfl (WT.pure 6 rfl (by kernel_rfl) (fun w' => (run_nilCheck rfl)) rfl rfl (WT.pure 7 rfl (by kernel_rfl) (fun w' => (run_fieldAddr 0 underlying105 rfl sizeOf3 rfl rfl)) rfl rfl ?_)))))))
    refine WT.load1 8 rfl (by kernel_rfl) isAgg3 rfl (h.cellB rfl) rfl rfl ?_
    refine WT.dec 9 rfl (by kernel_rfl) (fun w' => (run_gtr rfl rfl)) rfl rfl (fun c64 => ?_) (fun c64 => ?_)
    ·
     refine WT.pure 10 rfl (by kernel_rfl) (fun w' => run_move) rfl rfl (WT.skip 11 rfl (by kernel_rfl) rfl rfl (WT.skip 12 rfl (by kernel_rfl) rfl rfl (WT.skip 13 rfl (by kernel_rfl) rfl rfl (WT.skip 14 rfl (by kernel_rfl) rfl rfl (WT.skip 15 rfl (by kernel_rfl) rfl rfl (WT.skip 16 rfl (by kernel_rfl) rfl rfl (WT.pure 17 rfl (by kernel_rfl) (fun w' => (run_pickT rfl)) rfl rfl ?_)))))))
     refine WT.done (by kernel_rfl) (W.condT rfl (W.seq (W.region (WL.val run_assign rfl rfl (WL.val run_assign rfl rfl (WL.nil (W.ret ?_)))))))
     refine bodyQ.r2 (v1 := .pointer _) (v2 := .int .i64 _) results19 rfl rfl ?_
     exact .inr ⟨by unfold decS decS0; rw [if_pos ⟨⟨h1N, hN2⟩, h2b⟩, ← hD, decRows_stop hr (.inl (by rw [hsN]; omega))]; rfl, rfl, h.to⟩
    refine WT.pure 10 rfl (by kernel_rfl) (fun w' => run_move) rfl rfl (WT.pure 11 rfl (by kernel_rfl) (fun w' => run_move) rfl rfl (WT.pure 12 rfl (by kernel_rfl) (fun w' => (run_lenSlice underlying22 rfl)) rfl rfl (WT.pure 13 rfl (by kernel_rfl) (fun w' => (run_indexAddrArr underlying108 sizeOf3 rfl rfl (by omega) (by omega))) rfl rfl (WT.load1 14 rfl (by kernel_rfl) isAgg3 rfl (h.cellB rfl) rfl rfl (WT.pure 15 rfl (by kernel_rfl) (fun w' => (run_mulN (m := r.2) (n := 8) rfl rfl (by omega))) rfl rfl ?_)))))
    refine WT.dec 16 rfl (by kernel_rfl) (fun w' => (run_lss rfl rfl)) rfl rfl (fun c71 => ?_) (fun c71 => ?_)
    ·
     refine WT.pure 17 rfl (by kernel_rfl) (fun w' => (run_pickF rfl)) rfl rfl (WT.done (by kernel_rfl) (W.condT rfl (W.seq (W.region (WL.val run_assign rfl rfl (WL.val run_assign rfl rfl (WL.nil ?_)))))))
     refine W.ret (bodyQ.r2 (v1 := .pointer _) (v2 := .int .i64 _) results19 rfl rfl ?_)
     exact .inr ⟨by unfold decS decS0; rw [if_pos ⟨⟨h1N, hN2⟩, h2b⟩, ← hD, decRows_stop hr (.inr (by omega))]; rfl, rfl, h.to⟩
    refine WT.pure 17 rfl (by kernel_rfl) (fun w' => (run_pickF rfl)) rfl rfl (WT.done (by kernel_rfl) (W.condF rfl (W.skip ?_)))
    have hfit : ¬ (s.N < r.1 + r.2 ∨ rest.length < 8 * r.2) := by rw [hsN]; omega
    have hrN : r.1 + r.2 ≤ nB b := by omega
    have hr8 : 8 * r.2 ≤ rest.length := by omega
    have hpos2 := (hR.pos r (List.mem_of_getElem? hr)).1
    have hcrb := Cells.bounds (h.readsTo CR)
    have ob_ := sliced_part (b := gd) (o := od) (lo := r.1 * 8) (hi := (r.1 + r.2) * 8) (c := cd) (by omega) (by omega)
    obtain ⟨lo, hlo, hlo2⟩ := ob_
    have hlo3 : lo = r.1 * 8 := by omega
    subst hlo3
    have ob_ := cut_gives (k := 8 * r.2) CR hr8 hcrb.1
    obtain ⟨ax, cx, hcutX, CX⟩ := ob_
    have hm2 : (r.1 + r.2) * 8 - r.1 * 8 = 8 * r.2 := by omega
    rw [hm2] at hlo
    refine W.region (WL.val run_move rfl rfl (WL.val run_move rfl rfl (WL.val (run_indexAddrArr underlying108 sizeOf3 rfl rfl (by omega) (by omega)) rfl rfl (WL.val (run_load1 isAgg3 rfl (h.cellB rfl)) rfl rfl (WL.val (run_indexAddrArr underlying108 sizeOf3 rfl rfl (by omega) (by omega)) rfl rfl (WL.val (run_load1 isAgg3 rfl (h.cellB rfl)) rfl rfl (WL.eff (eff_call call54 (part_ok (b := bs) (gd := gd) (od := od) (cd := cd) (N := nB b) (at_ := r.1) (n := r.2) hN2 hrN hdc2 h)) rfl rfl ?_)))))))
    rintro _ w ⟨hv79, h⟩
    rw [hlo] at hv79
    subst hv79
    refine WL.val run_move rfl rfl (WL.eff (eff_copyIn (lo := r.1 * 8) (m := 8 * r.2) (h.fetch (Own 1 (.slice (some ⟨gd, od, none⟩) (8 * nB b) cd) (8 * nB b) (bytesV s.d))) rfl rfl (h.readsTo CR) rfl underlying22 sizeOf5 (by omega) bytes_one) rfl rfl ?_)
    rintro v81 w ⟨hv81, h⟩
    have hmin2 : min rest.length (8 * r.2) = 8 * r.2 := by omega
    rw [hmin2] at hv81 h
    have hov : splice (bytesV s.d) (r.1 * 8) ((bytesV rest).take (8 * r.2)) = bytesV (over s.d (8 * r.1) (rest.take (8 * r.2))) := by
      rw [show (bytesV rest).take (8 * r.2) = bytesV (rest.take (8 * r.2)) by unfold bytesV; rw [List.map_take], bytesV_over, Nat.mul_comm]
    rw [hov] at h
    subst hv81
    refine WL.val (run_cutLV (l := 8 * r.2) underlying22 sizeOf5 rfl rfl hr8 hcutX) rfl rfl (WL.val run_assign rfl rfl (WL.nil (W.region (WL.val (run_incN rfl rfl (by omega)) rfl rfl (WL.val run_move rfl rfl (WL.nil ?_))))))
    have hst := decRows_step (s := s) (rest := rest) hr hfit
    rw [hst, hsm, hsN] at hD
    have hov2 : (over s.d (8 * r.1) (rest.take (8 * r.2))).length = 8 * nB b := by rw [over_length (by rw [List.length_take]; omega)]; exact hsd
    exact ⟨k + 1, ⟨by omega, _, ⟨nB b, over s.d (8 * r.1) (rest.take (8 * r.2)), mB b⟩, rest.drop (8 * r.2), ax, cx, rfl, rfl, hov2, by rw [List.length_drop]; omega, CX, hD, fun q hq => by
      rw [RsM.take_snoc hr] at hq
      have ob_ := List.mem_append.1 hq
      rcases ob_ with hq | hq
      · exact hin q hq
      · simp at hq; subst hq; exact hrN, mkE_of ⟨rfl, rfl, rfl, rfl, rfl, rfl, trivial⟩, h.to⟩, by show (rowsOf (mB b)).length - (k + 1) < (rowsOf (mB b)).length - k; omega⟩
   refine W.exit (W.seq (W.seq ?_))
   have hkE : k = (rowsOf (mB b)).length := by omega
   have hsE : decS0 b = some s := by
     unfold decS0
     rw [if_pos ⟨⟨h1N, hN2⟩, h2b⟩, ← hD, hkE, List.drop_length]; rfl
   rw [hkE, List.take_length] at hin
   have hwf : Go.Sl.SpM.wfS s := ⟨by rw [hsd, hsN], by rw [hsN]; exact h1N, by rw [hsN]; exact hN2, by rw [hsm, hmB, hsN]⟩
   have hR2 : BitM.Rows s.m (rowsOf (mB b)) := by rw [hsm]; exact hR
   have hcapS : capS s := capS_rows hR2 (by rw [hsN]; exact hin)
   obtain ⟨sN, sd, sm⟩ := s
   have hsN : sN = nB b := hsN
   have hsm : sm = mB b := hsm
   subst hsN
   subst hsm
   have h := closeS (T := 105) (b := bs) (gd := gd) (od := od) (cd := cd) (am := some ⟨gm, om, none⟩) (cm := cm) (s := ⟨nB b, sd, mB b⟩) hwf (h.to (T := blk bs [.int .i64 (nB b : Int), .slice (some ⟨gd, od, none⟩) (8 * nB b) cd, .slice (some ⟨gm, om, none⟩) (mB b).length cm] 105 :: Own 1 (.slice (some ⟨gd, od, none⟩) (8 * nB b) cd) (8 * nB b) (bytesV sd) :: Own 1 (.slice (some ⟨gm, om, none⟩) (mB b).length cm) (mB b).length (bytesV (mB b)) :: L))
   refine W.region (WL.val run_move rfl rfl (WL.eff (eff_call call48 (sencode_ok (b := bs) (s := ⟨nB b, sd, mB b⟩) hcapS h)) rfl rfl ?_))
   rintro _ w ⟨a85, rfl, h⟩
   refine WL.val run_move rfl rfl (WL.eff (eff_call call24 (bequal_ok (bs := SpM.encS ⟨nB b, sd, mB b⟩) (cs := b) h (Gives.ownO (v := .slice a85 (SpM.encS ⟨nB b, sd, mB b⟩).length (SpM.encS ⟨nB b, sd, mB b⟩).length)) (Gives.to C))) rfl rfl ?_)
   rintro _ w ⟨hv, h⟩
   have hcs := Bool.eq_false_or_eq_true (decide (SpM.encS ⟨nB b, sd, mB b⟩ = b))
   rcases hcs with heq | heq <;> (rw [heq] at hv; subst hv)
   ·
    refine WL.val (run_not rfl) rfl rfl (WL.nil (W.condF rfl (W.skip (W.seq (W.region (WL.val run_move rfl rfl (WL.val run_assign rfl rfl ?_)))))))
    refine WL.val run_assign rfl rfl (WL.nil (W.ret (bodyQ.r2 (v1 := .pointer _) (v2 := .int .i64 _) results19 rfl rfl ?_)))
    have he := of_decide_eq_true heq
    exact .inl ⟨_, bs, by unfold decS; rw [hsE]; exact if_pos he, hcapS, rfl, h.to⟩
   refine WL.val (run_not rfl) rfl rfl (WL.nil (W.condT rfl (W.seq (W.region (WL.val run_assign rfl rfl (WL.val run_assign rfl rfl (WL.nil ?_)))))))
   refine W.ret (bodyQ.r2 (v1 := .pointer _) (v2 := .int .i64 _) results19 rfl rfl ?_)
   have he := of_decide_eq_false heq
   exact .inr ⟨by unfold decS; rw [hsE]; exact if_neg he, rfl, h.to⟩
  refine WL.val run_move rfl rfl (WL.val (run_extract rfl rfl) rfl rfl (WL.val (run_extract rfl rfl) rfl rfl (WL.val run_assign rfl rfl (WL.val run_assign rfl rfl (WL.nil (W.seq (W.seq ?_)))))))
  refine W.region (WL.val run_move rfl rfl (WL.val (run_neqT rfl rfl (by decide)) rfl rfl (WL.val run_move rfl rfl (WL.skip rfl rfl (WL.skip rfl rfl (WL.skip rfl rfl (WL.skip rfl rfl ?_)))))))
  refine WL.skip rfl rfl (WL.skip rfl rfl (WL.skip rfl rfl (WL.skip rfl rfl (WL.skip rfl rfl (WL.val (run_pickT rfl) rfl rfl (WL.nil (W.condT rfl ?_)))))))
  refine W.seq (W.region (WL.val run_assign rfl rfl (WL.val run_assign rfl rfl (WL.nil (W.ret (bodyQ.r2 (v1 := .pointer _) (v2 := .int .i64 _) results19 rfl rfl ?_))))))
  exact .inr ⟨by unfold decS decS0; rw [if_neg (fun hh => hno (by omega))]; rfl, rfl, h.to⟩
end Go.Proofs.YtjbgiingimhnnaaGreat
/-
  Guests of whom some are read already. No program is named here.
-/
namespace Go.Sl.UnM
open Go Go.Sl Go.Sl.BitM Go.Sl.SpM Go.Sl.RsM Go.Sl.ByM
set_option linter.unusedVariables false
abbrev mix (gd : List GX) (mbs : List Nat) (k : Nat) : List GX := gd ++ (mbs.drop k).map zG
theorem mix_drop {mbs : List Nat} {k mb : Nat} (hm : mbs[k]? = some mb) : mbs.drop k = mb :: mbs.drop (k + 1) := by
  have hlt := (List.getElem?_eq_some_iff.1 hm).1
  have he := (List.getElem?_eq_some_iff.1 hm).2
  rw [List.drop_eq_getElem_cons hlt, he]
theorem mix_get {gd : List GX} {mbs : List Nat} {k mb : Nat} (hk : gd.length = k) (hm : mbs[k]? = some mb) : (mix gd mbs k)[k]? = some (zG mb) := by
  show (gd ++ (mbs.drop k).map zG)[k]? = _
  rw [List.getElem?_append_right (by omega), mix_drop hm, hk, Nat.sub_self]; rfl
theorem mix_set {gd : List GX} {mbs : List Nat} {k mb : Nat} {g : GX} (hk : gd.length = k) (hm : mbs[k]? = some mb) : (mix gd mbs k).set k g = mix (gd ++ [g]) mbs (k + 1) := by
  show (gd ++ (mbs.drop k).map zG).set k g = (gd ++ [g]) ++ (mbs.drop (k + 1)).map zG
  rw [List.set_append_right _ _ (by omega), mix_drop hm, hk, Nat.sub_self, List.append_assoc]; rfl
theorem GOwn_sub {pool pool2 : PoolL} {g : GX} {hh : Hp} (hs : ∀ p ∈ pool, p ∈ pool2) (h : GOwn pool g hh) : GOwn pool2 g hh := by
  obtain ⟨⟨h1, h2, h3⟩, h4⟩ := h
  refine ⟨⟨h1, h2, fun x hx => ?_⟩, h4⟩
  obtain ⟨r, dv, a, b, c⟩ := h3 x hx
  exact ⟨r, dv, a, b, hs _ c⟩
theorem rdGs_step {n : Nat} {s : RS} {l : List Gs} (h : (readG (rdP s).1).1 = true) : rdGs (n + 1) s l = rdGs n (rdP s).2 (l ++ [(readG (rdP s).1).2]) := by
  rw [rdGs, if_pos h]
theorem rdGs_stop {n : Nat} {s : RS} {l : List Gs} (h : ¬ (readG (rdP s).1).1 = true) : rdGs (n + 1) s l = none := by
  rw [rdGs, if_neg h]
theorem decU0_none {b : List UInt8} {s : Sp} {t : Tb} (hds : decS (rdP (b, false)).1 = some s) (hdt : decT (rdP (rdP (b, false)).2).1 = some t) (hX : none = rdGs 8 (rdP (rdP (b, false)).2).2 []) : decU0 b = none := by
  unfold decU0
  simp only [hds, hdt, ← hX, Option.bind_some, Option.bind_none]
theorem decU0_some {b : List UInt8} {s : Sp} {t : Tb} {st : RS} {gl : List Gs} (hds : decS (rdP (b, false)).1 = some s) (hdt : decT (rdP (rdP (b, false)).2).1 = some t) (hX : some (st, gl) = rdGs 8 (rdP (rdP (b, false)).2).2 []) : decU0 b = if st.2 = true then none else some ⟨s, t, gl⟩ := by
  unfold decU0
  simp only [hds, hdt, ← hX, Option.bind_some]
theorem decT_ok {b : List UInt8} {t : Tb} (h : decT b = some t) : okT t := by
  unfold decT at h
  split at h
  · cases h; exact decT0_ok b
  · cases h
theorem decS_enc {b : List UInt8} {s : Sp} (h : decS b = some s) : SpM.encS s = b := by
  unfold decS at h
  cases h0 : decS0 b with
  | none => rw [h0] at h; cases h
  | some s0 =>
    rw [h0] at h
    have h : (if SpM.encS s0 = b then some s0 else none) = some s := h
    split at h
    · rename_i e; cases h; exact e
    · cases h
theorem decU_of {b : List UInt8} {u : Un} (hd : decU0 b = some u) (he : encU u (SpM.encS u.s) = b) : decU b = some u := by
  unfold decU; rw [hd]; simp only [Option.bind_some]; rw [if_pos he]
theorem decU_no {b : List UInt8} {u : Un} (hd : decU0 b = some u) (he : ¬ encU u (SpM.encS u.s) = b) : decU b = none := by
  unfold decU; rw [hd]; simp only [Option.bind_some]; rw [if_neg he]
theorem decU_no0 {b : List UInt8} (hd : decU0 b = none) : decU b = none := by
  unfold decU; rw [hd]; simp only [Option.bind_none]
theorem decU_ofE {b E : List UInt8} {u : Un} (hd : decU0 b = some u) (hE : E = encU u (SpM.encS u.s)) (he : E = b) : decU b = some u := decU_of hd (hE ▸ he)
theorem decU_noE {b E : List UInt8} {u : Un} (hd : decU0 b = some u) (hE : E = encU u (SpM.encS u.s)) (he : ¬ E = b) : decU b = none := decU_no hd (hE ▸ he)
end Go.Sl.UnM
/-
  A unit: a unit read: the contracts. Lines of walks printed by a program of the prover's.
-/
namespace Go.Proofs.YtjbgiingimhnnaaGreat
open Go.Proofs.Tryz
open Go Go.Sl Go.Sl.BitM Go.Sl.SpM Go.Sl.RsM Go.Sl.ByM Go.Sl.UnM
set_option linter.unusedVariables false
set_option linter.unusedSimpArgs false
set_option maxHeartbeats 1000000
set_option maxRecDepth 8000
variable {W0 w : World} {L F : List HProp}
theorem udecode_ok [tF : To L F] {cb0 : Nat} {ab0 : Option Addr} {b : List UInt8} (hb : b.length ≤ 100000) (hE : ∀ u, decU0 b = some u → ∀ i, i < 8 → okG (u.guest i) ∧ (u.guest i).done.length ≤ 1) (h : On W0 L w) (C0 : Gives F (Bytes (.slice ab0 b.length cb0) b)) : Calls Tryz.prog 7 #[.slice ab0 b.length cb0] w (Ret fun v w' => (∃ u bu ms pool, decU b = some u ∧ v = .tuple #[.pointer (some ⟨bu, 0, none⟩), .int .i64 0] ∧ On W0 (UnP 68 105 113 bu pool ms u :: Pool pool :: L) w') ∨ (decU b = none ∧ v = .tuple #[.pointer none, .int .i64 2] ∧ On W0 L w')) := by
  refine enter func7 rfl ntmps7 rfl ?_
  have hmx := maxLen_eq
  refine W.seq (W.region (WL.val run_assign rfl rfl (WL.val run_assign rfl rfl (WL.nil (W.scope (W.seq (W.region ?_)))))))
  refine WL.val run_move rfl rfl (WL.val (run_buildS (pl := [(0, 1), (1, 1)]) (out := [.slice _ _ _, .bool _]) underlying55 zeroValue55 (fun w => by kernel_rfl) rfl (⟨⟨_, _, rfl, rfl, by decide⟩, trivial⟩) rfl) rfl rfl (WL.eff (eff_box (v := .agg _) (l := [.slice ab0 b.length cb0, .bool false]) h rfl rfl) rfl rfl ?_))
  rintro _ w ⟨b14, rfl, h⟩
  have h : On W0 (blk b14 [.slice ab0 (b, false).1.length cb0, .bool (b, false).2] 55 :: L) w := h
  have C : Gives F (Bytes (.slice ab0 (b, false).1.length cb0) (b, false).1) := C0
  have q0 := rdP_len (s := (b, false))
  have q1 := rdP_len (s := (rdP (b, false)).2)
  have hb2 : (b, false).1.length ≤ 100000 := hb
  refine WL.val run_assign rfl rfl (WL.nil (W.seq (W.region (WL.val run_move rfl rfl (WL.eff (eff_call call20 (rprt_ok (F := F) (s := (b, false)) (h.fetch (blk b14 [.slice ab0 (b, false).1.length cb0, .bool (b, false).2] 55)) C)) rfl rfl ?_)))))
  rintro _ w ⟨a1, c1, ab, cb, C1, C, rfl, h⟩
  refine WL.eff (eff_call call19 (sdecode_ok (F := F) (b := (rdP (b, false)).1) (by omega) h C1)) rfl rfl ?_
  rintro _ w hv
  rcases hv with ⟨s, bs, hds, hcap, rfl, h⟩ | ⟨hds, rfl, h⟩
  ·
   refine WL.val run_move rfl rfl (WL.val (run_extract rfl rfl) rfl rfl (WL.val (run_extract rfl rfl) rfl rfl (WL.val run_assign rfl rfl (WL.val run_assign rfl rfl (WL.nil (W.seq (W.region ?_)))))))
   refine WL.val run_move rfl rfl (WL.eff (eff_call call20 (rprt_ok (F := F) (s := (rdP (b, false)).2) (h.fetch (blk b14 [.slice ab (rdP (b, false)).2.1.length cb, .bool (rdP (b, false)).2.2] 55)) C)) rfl rfl ?_)
   rintro _ w ⟨a1, c1, ab, cb, C1, C, rfl, h⟩
   refine WL.eff (eff_call call21 (rdecode_ok (F := F) (b := (rdP (rdP (b, false)).2).1) (by omega) h C1)) rfl rfl ?_
   rintro _ w hv
   rcases hv with ⟨t, bt, hdt, rfl, h⟩ | ⟨hdt, rfl, h⟩
   ·
    refine WL.val run_move rfl rfl (WL.val (run_extract rfl rfl) rfl rfl (WL.val (run_extract rfl rfl) rfl rfl (WL.val run_assign rfl rfl (WL.val run_assign rfl rfl (WL.nil (W.seq (W.seq ?_)))))))
    refine W.region (WL.val run_move rfl rfl (WL.val (run_neqF rfl rfl (by decide)) rfl rfl (WL.val run_move rfl rfl (WL.val run_move rfl rfl (WL.val (run_neqF rfl rfl (by decide)) rfl rfl (WL.val (run_pickF rfl) rfl rfl (WL.nil ?_)))))))
    refine W.condF rfl (W.skip (W.seq ?_))
    have hwf := On.wfS (h.fetch (SpP 105 bs s))
    refine W.region (WL.val run_move rfl rfl (WL.eff (eff_call call22 (blocks_ok (h.fetch (SpP 105 bs s)))) rfl rfl ?_))
    rintro _ w ⟨rfl, h⟩
    refine WL.eff (eff_call call10 (unewR_ok (pool := []) (n := (s.N : Int)) h)) rfl rfl ?_
    rintro _ w hv
    rcases hv with ⟨N, hN, h1N, hN2, bu, bs0, bt0, mbs, hml, rfl, h⟩ | ⟨hno, _, _⟩
    rotate_left
    · exact absurd (show _ by have := hwf.2.1; have := hwf.2.2.1; omega) hno
    have h := h.pool0
    refine WL.val run_move rfl rfl (WL.val (run_extract rfl rfl) rfl rfl (WL.val (run_extract rfl rfl) rfl rfl (WL.val run_assign rfl rfl (WL.val run_assign rfl rfl (WL.nil (W.seq (W.region ?_)))))))
    refine WL.val run_move rfl rfl (WL.val run_move rfl rfl (WL.val run_move rfl rfl (WL.val run_move rfl rfl (WL.val (run_nilCheck rfl) rfl rfl (WL.val (run_fieldAddr 0 underlying68 rfl sizeOf56 rfl rfl) rfl rfl (WL.eff (eff_store (v := .pointer _) h sizeOf56 rfl rfl rfl rfl rfl) rfl rfl ?_))))))
    rintro _ w h
    try simp only [Nat.zero_add, Nat.add_zero, List.set_cons_zero, List.set_cons_succ] at h
    refine WL.val (run_nilCheck rfl) rfl rfl (WL.val (run_fieldAddr 1 underlying68 rfl sizeOf59 rfl rfl) rfl rfl (WL.eff (eff_store (v := .pointer _) h sizeOf59 rfl rfl rfl rfl rfl) rfl rfl ?_))
    rintro _ w h
    try simp only [Nat.zero_add, Nat.add_zero, List.set_cons_zero, List.set_cons_succ] at h
    refine WL.nil (W.seq (W.label ?_))
    refine W.cut (fun env w => ∃ (j : Env) (gs : List GX) (pool : PoolL) (vr : Value) (r : Bool), gs.length = 8 ∧ ((r = true ∧ decU0 b = none) ∨ (r = false ∧ decU0 b = some ⟨s, t, gs.map (·.s)⟩)) ∧ env = mkE j [(0, .slice ab0 b.length cb0), (4, .pointer (some ⟨b14, 0, none⟩)), (9, .pointer (some ⟨bu, 0, none⟩))] ∧ On W0 (blk bu (ucells bs bt gs) 68 :: SpP 105 bs s :: blk bt t.cells 113 :: Big (GOwn pool) gs :: Pool pool :: blk b14 [vr, .bool r] 55 :: L) w) ?_ ?_
    ·
     refine W.seq (W.region (WL.val run_move rfl rfl (WL.nil (W.block ?_))))
     refine W.loop (fun (k : Nat) env w => k ≤ 8 ∧ ∃ (j : Env) (ab : Option Addr) (cb : Nat) (st : RS) (gl : List Gs) (gd : List GX) (pool : PoolL), gd.length = k ∧ gd.map (·.s) = gl ∧ Gives F (Bytes (.slice ab st.1.length cb) st.1) ∧ st.1.length ≤ 100000 ∧ rdGs (8 - k) st gl = rdGs 8 (rdP (rdP (b, false)).2).2 [] ∧ env = mkE j [(0, .slice ab0 b.length cb0), (4, .pointer (some ⟨b14, 0, none⟩)), (9, .pointer (some ⟨bu, 0, none⟩)), (47, .int .i64 (k : Int))] ∧ On W0 (blk bu (ucells bs bt (mix gd mbs k)) 68 :: SpP 105 bs s :: blk bt t.cells 113 :: Big (GOwn pool) (mix gd mbs k) :: Pool pool :: blk b14 [.slice ab st.1.length cb, .bool st.2] 55 :: L) w) (fun k => 8 - k) (0) ?_ ?_
     · have h : On W0 (blk bu (ucells bs bt (mix [] mbs 0)) 68 :: _) w := h.fetch (blk bu (ucells bs bt (mbs.map zG)) 68)
       have h : On W0 (Big (GOwn []) (mix [] mbs 0) :: _) w := h.fetch (Big (GOwn []) (mbs.map zG))
       exact ⟨Nat.zero_le _, _, ab, cb, (rdP (rdP (b, false)).2).2, [], [], [], rfl, rfl, C, by have := q1.2; have := q0.2; omega, rfl, mkE_of ⟨rfl, rfl, rfl, rfl, trivial⟩, h.to⟩
     clear h C
     rintro k env w ⟨hk8, j, ab, cb, st, gl, gd, pool, hgl, hgm, C, hsl, hX, rfl, h⟩
     refine W.seq (W.region (WL.val (run_lss rfl rfl) rfl rfl (WL.nil (W.seq ?_))))
     refine W.condIf rfl (fun c17 => ?_) (fun c17 => ?_)
     ·
      refine W.skip (W.seq ?_)
      have hk7 : k < 8 := by omega
      have ob_ : ∃ mb, mbs[k]? = some mb := ⟨mbs[k]'(by omega), by simp⟩
      obtain ⟨mb, hmb⟩ := ob_
      have hg := mix_get hgl hmb
      have hig : k < (mix gd mbs k).length := (List.getElem?_eq_some_iff.1 hg).1
      have h := Big.open hg (h.fetch (Big (GOwn pool) (mix gd mbs k)))
      have ob_ := openG h
      obtain ⟨_, h⟩ := ob_
      have h : On W0 (CodesO (zG mb) :: MapC mb .u64 [] 0 :: _) w := h
      have h8 : 8 - k = 8 - (k + 1) + 1 := by omega
      rw [h8] at hX
      refine W.block (W.seq (W.region (WL.val run_move rfl rfl (WL.val run_assign rfl rfl (WL.nil (W.seq ?_))))))
      refine W.draw Tryz.follows h (fun w h => ?_)
      refine WT.pure 0 rfl (by kernel_rfl) (fun w' => run_move) rfl rfl (WT.pure 1 rfl (by kernel_rfl) (fun w' => run_move) rfl rfl (WT.pure 2 rfl (by kernel_rfl) (fun w' => (run_nilCheck rfl)) rfl rfl (WT.pure 3 rfl (by kernel_rfl) (fun w' => (run_fieldAddr 2 underlying68 rfl sizeOf66 rfl rfl)) rfl rfl (WT.pure 4 rfl (by kernel_rfl) (fun w' => (run_indexAddrArr underlying66 sizeOf65 rfl rfl (by omega) (by omega))) rfl rfl (WT.pure 5 rfl (by kernel_rfl) (fun w' => run_move) rfl rfl (WT.eff 6 [] rfl (by kernel_rfl) (by kernel_rfl) (eff_call call20 (rprt_ok (F := F) (s := st) (h.fetch (blk b14 [.slice ab st.1.length cb, .bool st.2] 55)) C)) rfl rfl ?_))))))
      rintro _ w ⟨a1, c1, ab, cb, C1, C, rfl, h⟩
      refine ⟨trivial, ?_⟩
      refine WT.eff 7 [] rfl (by kernel_rfl) (by kernel_rfl) (eff_call call23 (gread_ok (F := F) (bu := bu) (bs := bs) (bt := bt) (i := k) (mb := mb) (gs := mix gd mbs k) (pool := pool) (b := (rdP st).1) hg (by have := (rdP_len (s := st)).1; omega) (((h.fetch (Pool pool)).fetch (blk bu (ucells bs bt (mix gd mbs k)) 68)).fetch (MapC mb .u64 [] 0)) C1)) rfl rfl ?_
      rintro _ w ⟨a, c, ck, kvs, pool2, hok2, hps, rfl, h⟩
      have h := (h.fetch (Big (GOwn pool) ((mix gd mbs k).eraseIdx k))).head (big_mono (fun x hh => GOwn_sub hps) _)
      have h := Big.close (y := (⟨(readG (rdP st).1).2, a, c, mb, ck, kvs⟩ : GX)) hig (closeG (g := (⟨(readG (rdP st).1).2, a, c, mb, ck, kvs⟩ : GX)) hok2 (((h.fetch (Big (GOwn pool2) ((mix gd mbs k).eraseIdx k))).fetch (MapC mb .u64 kvs ck)).fetch (Own 1 (.slice a (readG (rdP st).1).2.codes.length c) (readG (rdP st).1).2.codes.length (cV (readG (rdP st).1).2.codes))))
      rw [mix_set hgl hmb] at h
      refine ⟨trivial, ?_⟩
      refine WT.pure 8 rfl (by kernel_rfl) (fun w' => (run_not rfl)) rfl rfl (WT.done (by kernel_rfl) ?_)
      refine W.condB rfl (fun c23 => ?_) (fun c23 => ?_)
      ·
       refine W.seq (W.region (WL.val run_move rfl rfl (WL.val (run_nilCheck rfl) rfl rfl (WL.val (run_fieldAddr 1 underlying55 rfl sizeOf4 rfl rfl) rfl rfl (WL.eff (eff_store (v := .bool _) h sizeOf4 rfl rfl rfl rfl rfl) rfl rfl ?_)))))
       rintro _ w h
       try simp only [Nat.zero_add, Nat.add_zero, List.set_cons_zero, List.set_cons_succ] at h
       refine WL.nil (W.exit ?_)
       have hno : ¬ (readG (rdP st).1).1 = true := by intro e; rw [e] at c23; cases c23
       rw [rdGs_stop hno] at hX
       exact ⟨_, mix (gd ++ [⟨(readG (rdP st).1).2, a, c, mb, ck, kvs⟩]) mbs (k + 1), pool2, .slice ab (rdP st).2.1.length cb, true, by show (gd ++ [_] ++ (mbs.drop (k + 1)).map zG).length = 8; rw [List.length_append, List.length_append, List.length_map, List.length_drop, hgl, hml]; show k + 1 + _ = 8; omega, .inl ⟨rfl, decU0_none hds hdt hX⟩, mkE_of ⟨rfl, rfl, rfl, trivial⟩, h.to⟩
      refine W.skip (W.region (WL.val (run_add rfl rfl (by omega) (by omega)) rfl rfl (WL.val run_move rfl rfl (WL.nil ?_))))
      have hyes : (readG (rdP st).1).1 = true := by simpa using c23
      rw [rdGs_step hyes] at hX
      exact ⟨k + 1, ⟨by omega, _, ab, cb, _, _, gd ++ [⟨(readG (rdP st).1).2, a, c, mb, ck, kvs⟩], pool2, by rw [List.length_append, hgl]; rfl, by rw [List.map_append, hgm]; rfl, C, by have := (rdP_len (s := st)).2; omega, hX, mkE_of ⟨rfl, rfl, rfl, rfl, trivial⟩, h.to⟩, by show 8 - (k + 1) < 8 - k; omega⟩
     refine W.exit ?_
     have ob_ : k = 8 := by omega
     obtain rfl := ob_
     have e8 : mix gd mbs 8 = gd := by show gd ++ (mbs.drop 8).map zG = gd; rw [List.drop_eq_nil_of_le (by omega)]; exact List.append_nil _
     rw [e8] at h
     have hX8 : some (st, gl) = rdGs 8 (rdP (rdP (b, false)).2).2 [] := hX
     refine ⟨_, gd, pool, .slice ab st.1.length cb, st.2, hgl, ?_, mkE_of ⟨rfl, rfl, rfl, trivial⟩, h.to⟩
     have hd0 := decU0_some hds hdt hX8
     rw [hgm, hd0]
     cases st.2 with
     | true => exact .inl ⟨rfl, rfl⟩
     | false => exact .inr ⟨rfl, rfl⟩
    clear h C
    rintro env w ⟨j, gs, pool, vr, r, hgl, hcs, rfl, h⟩
    refine W.seq (W.seq (W.region (WL.val run_move rfl rfl (WL.val (run_nilCheck rfl) rfl rfl (WL.val (run_fieldAddr 1 underlying55 rfl sizeOf4 rfl rfl) rfl rfl ?_)))))
    refine WL.boolB (run_load1 isAgg4 rfl (h.cellB rfl)) rfl rfl (fun c66 => ?_) (fun c66 => ?_)
    ·
     refine WL.val run_move rfl rfl (WL.skip rfl rfl (WL.skip rfl rfl (WL.skip rfl rfl (WL.skip rfl rfl (WL.skip rfl rfl (WL.val (run_pickT rfl) rfl rfl (WL.nil ?_)))))))
     refine W.condT rfl (W.seq (W.region (WL.val run_assign rfl rfl (WL.val run_assign rfl rfl (WL.nil (W.ret (bodyQ.r2 (v1 := .pointer _) (v2 := .int .i64 _) results7 rfl rfl ?_)))))))
     rcases hcs with ⟨_, hn⟩ | ⟨hr, _⟩
     · exact .inr ⟨decU_no0 hn, rfl, h.to⟩
     · rw [c66] at hr; cases hr
    rcases hcs with ⟨hr, _⟩ | ⟨_, hdec⟩
    · rw [c66] at hr; cases hr
    have hes := decS_enc hds
    have hq := (rdP_len (s := (b, false))).1
    have hq : (rdP (b, false)).1.length ≤ b.length := hq
    have h0 : (SpM.encS (⟨s, t, gs.map (·.s)⟩ : Un).s).length ≤ 10000000000 := by show (SpM.encS s).length ≤ _; rw [hes]; omega
    have h := closeU (bu := bu) (u := ⟨s, t, gs.map (·.s)⟩) (ms := gs.map (·.mb)) ⟨rfl, rfl⟩ (by show (gs.map _).length = 8; rw [List.length_map]; exact hgl) h
    have obU_ : ∃ U0 : Un, U0 = ⟨s, t, gs.map (·.s)⟩ := ⟨_, rfl⟩
    obtain ⟨U0, hU0⟩ := obU_
    rw [← hU0] at h h0 hdec
    have hcapU : capS U0.s := by rw [hU0]; exact hcap
    have hokU : okT U0.t := by rw [hU0]; exact decT_ok hdt
    refine WL.val run_move rfl rfl (WL.val run_move rfl rfl (WL.eff (eff_call call17 (uencode_ok (bu := bu) (u := U0) (pool := pool) (ms := gs.map (·.mb)) hcapU hokU (hE _ hdec) h0 h)) rfl rfl ?_))
    rintro v69 w ⟨a69, hv69, h⟩
    have ob_ : ∃ E, E = encU U0 (SpM.encS U0.s) := ⟨_, rfl⟩
    obtain ⟨E, hEq⟩ := ob_
    rw [← hEq] at hv69 h
    subst hv69
    refine WL.val run_move rfl rfl (WL.eff (eff_call call24 (bequal_ok (bs := E) (cs := b) h (Gives.ownO (v := .slice a69 E.length E.length)) (Gives.to C0))) rfl rfl ?_)
    rintro _ w ⟨hv, h⟩
    have hcs := Bool.eq_false_or_eq_true (decide (E = b))
    rcases hcs with heq | heq <;> (rw [heq] at hv; subst hv)
    ·
     refine WL.val (run_not rfl) rfl rfl (WL.val (run_pickF rfl) rfl rfl (WL.nil (W.condF rfl (W.skip (W.seq (W.region (WL.val run_move rfl rfl ?_)))))))
     refine WL.val run_assign rfl rfl (WL.val run_assign rfl rfl (WL.nil (W.ret (bodyQ.r2 (v1 := .pointer _) (v2 := .int .i64 _) results7 rfl rfl ?_))))
     exact .inl ⟨U0, bu, gs.map (·.mb), pool, decU_ofE hdec hEq (of_decide_eq_true heq), rfl, h.to⟩
    refine WL.val (run_not rfl) rfl rfl (WL.val (run_pickF rfl) rfl rfl (WL.nil (W.condT rfl (W.seq (W.region (WL.val run_assign rfl rfl (WL.val run_assign rfl rfl ?_)))))))
    refine WL.nil (W.ret (bodyQ.r2 (v1 := .pointer _) (v2 := .int .i64 _) results7 rfl rfl ?_))
    exact .inr ⟨decU_noE hdec hEq (of_decide_eq_false heq), rfl, h.to⟩
   refine WL.val run_move rfl rfl (WL.val (run_extract rfl rfl) rfl rfl (WL.val (run_extract rfl rfl) rfl rfl (WL.val run_assign rfl rfl (WL.val run_assign rfl rfl (WL.nil (W.seq (W.seq ?_)))))))
   refine W.region (WL.val run_move rfl rfl (WL.val (run_neqF rfl rfl (by decide)) rfl rfl (WL.val run_move rfl rfl (WL.val run_move rfl rfl (WL.val (run_neqT rfl rfl (by decide)) rfl rfl (WL.val (run_pickF rfl) rfl rfl (WL.nil ?_)))))))
   refine W.condT rfl (W.seq (W.region (WL.val run_assign rfl rfl (WL.val run_assign rfl rfl (WL.nil (W.ret (bodyQ.r2 (v1 := .pointer _) (v2 := .int .i64 _) results7 rfl rfl ?_)))))))
   exact .inr ⟨by unfold decU decU0; rw [hds, hdt]; rfl, rfl, h.to⟩
  refine WL.val run_move rfl rfl (WL.val (run_extract rfl rfl) rfl rfl (WL.val (run_extract rfl rfl) rfl rfl (WL.val run_assign rfl rfl (WL.val run_assign rfl rfl (WL.nil (W.seq (W.region ?_)))))))
  refine WL.val run_move rfl rfl (WL.eff (eff_call call20 (rprt_ok (F := F) (s := (rdP (b, false)).2) (h.fetch (blk b14 [.slice ab (rdP (b, false)).2.1.length cb, .bool (rdP (b, false)).2.2] 55)) C)) rfl rfl ?_)
  rintro _ w ⟨a1, c1, ab, cb, C1, C, rfl, h⟩
  refine WL.eff (eff_call call21 (rdecode_ok (F := F) (b := (rdP (rdP (b, false)).2).1) (by omega) h C1)) rfl rfl ?_
  rintro _ w hv
  rcases hv with ⟨t, bt, hdt, rfl, h⟩ | ⟨hdt, rfl, h⟩
  ·
   refine WL.val run_move rfl rfl (WL.val (run_extract rfl rfl) rfl rfl (WL.val (run_extract rfl rfl) rfl rfl (WL.val run_assign rfl rfl (WL.val run_assign rfl rfl (WL.nil (W.seq (W.seq ?_)))))))
   refine W.region (WL.val run_move rfl rfl (WL.val (run_neqT rfl rfl (by decide)) rfl rfl (WL.val run_move rfl rfl (WL.skip rfl rfl (WL.skip rfl rfl (WL.val (run_pickT rfl) rfl rfl (WL.nil ?_)))))))
   refine W.condT rfl (W.seq (W.region (WL.val run_assign rfl rfl (WL.val run_assign rfl rfl (WL.nil (W.ret (bodyQ.r2 (v1 := .pointer _) (v2 := .int .i64 _) results7 rfl rfl ?_)))))))
   exact .inr ⟨by unfold decU decU0; rw [hds]; rfl, rfl, h.to⟩
  refine WL.val run_move rfl rfl (WL.val (run_extract rfl rfl) rfl rfl (WL.val (run_extract rfl rfl) rfl rfl (WL.val run_assign rfl rfl (WL.val run_assign rfl rfl (WL.nil (W.seq (W.seq ?_)))))))
  refine W.region (WL.val run_move rfl rfl (WL.val (run_neqT rfl rfl (by decide)) rfl rfl (WL.val run_move rfl rfl (WL.skip rfl rfl (WL.skip rfl rfl (WL.val (run_pickT rfl) rfl rfl (WL.nil ?_)))))))
  refine W.condT rfl (W.seq (W.region (WL.val run_assign rfl rfl (WL.val run_assign rfl rfl (WL.nil (W.ret (bodyQ.r2 (v1 := .pointer _) (v2 := .int .i64 _) results7 rfl rfl ?_)))))))
  exact .inr ⟨by unfold decU decU0; rw [hds]; rfl, rfl, h.to⟩
end Go.Proofs.YtjbgiingimhnnaaGreat
/-
  What a small unit tells, by the plain models. No program is named here.
-/
namespace Go.Sl.UnM
open Go Go.Sl Go.Sl.BitM Go.Sl.SpM Go.Sl.RsM Go.Sl.ByM
set_option linter.unusedVariables false
def abc : List UInt8 := [97, 98, 99, 100, 101, 102, 103, 104]
def cmW : Cm := ⟨3, 1, 1, abc, 0, 0, 0, false⟩
def cmR : Cm := ⟨2, 1, 1, [], 0, 0, 0, false⟩
def cmR0 : Cm := ⟨2, 0, 0, [], 0, 0, 0, false⟩
def kn1 : Un := (onceM (newU 4) 0 1 0 cmW).1
def kn2 : Un := (doM kn1 1 cmR).1
def kn3 : Un := (onceM kn2 0 1 0 cmR).1
def kn4 : Un := (doM kn3 9 cmR0).1
theorem kn1_eq : onceM (newU 4) 0 1 0 cmW = (kn1, plain 0 0 0, true) := by
  have h : (onceM (newU 4) 0 1 0 cmW).2 = (plain 0 0 0, true) := by decide +kernel
  unfold kn1; rw [← h]
theorem kn2_eq : doM kn1 1 cmR = (kn2, gave abc) := by
  have h : (doM kn1 1 cmR).2 = gave abc := by decide +kernel
  unfold kn2; rw [← h]
theorem kn3_eq : onceM kn2 0 1 0 cmR = (kn3, plain 0 0 0, false) := by
  have h : (onceM kn2 0 1 0 cmR).2 = (plain 0 0 0, false) := by decide +kernel
  unfold kn3; rw [← h]
theorem kn4_eq : doM kn3 9 cmR0 = (kn4, plain 2 5 8192) := by
  have h : (doM kn3 9 cmR0).2 = plain 2 5 8192 := by decide +kernel
  unfold kn4; rw [← h]
/-- What a unit's parts have to be, decided. -/
def okCb (u : Un) : Bool := (List.range 8).all fun i => (u.guest i).codes.all fun c => decide (0 ≤ c ∧ c < 65536)
def smallb (u : Un) : Bool := (List.range 8).all fun i => decide ((u.guest i).codes.length ≤ 1000)
theorem okCb_ok {u : Un} (h : okCb u = true) : okC u := fun i hi c hc => by
  unfold okCb at h
  have h1 := List.all_eq_true.1 h i (List.mem_range.2 hi)
  have h2 := List.all_eq_true.1 h1 c hc
  simpa using h2
def okRb (r : Rp) : Bool := decide (0 ≤ r.st ∧ r.st < 256 ∧ 0 ≤ r.key ∧ r.key < 256 ∧ 0 ≤ r.code ∧ r.code < 65536 ∧ 0 ≤ r.info ∧ r.info < 4294967296 ∧ r.data.length ≤ 10000)
def okGb (g : Gs) : Bool := (decide (g.codes.length ≤ 10000) && g.codes.all (fun c => decide (0 ≤ c ∧ c < 65536))) && (decide (0 ≤ g.floor ∧ g.floor < 18446744073709551616) && g.done.all fun x => decide (0 ≤ x.1 ∧ x.1 < 18446744073709551616) && okRb x.2)
def okUb (u : Un) : Bool := (List.range 8).all fun i => okGb (u.guest i) && decide ((u.guest i).done.length ≤ 1)
theorem okGb_ok {g : Gs} (h : okGb g = true) : okG g := by
  unfold okGb at h
  rw [Bool.and_eq_true, Bool.and_eq_true, Bool.and_eq_true, List.all_eq_true, List.all_eq_true] at h
  obtain ⟨⟨h1, h2⟩, h3, h4⟩ := h
  have h3 := of_decide_eq_true h3
  refine ⟨of_decide_eq_true h1, fun c hc => of_decide_eq_true (h2 c hc), h3.1, h3.2, fun x hx => ?_⟩
  have h5 := h4 x hx
  rw [Bool.and_eq_true] at h5
  have h6 := h5.2
  unfold okRb at h6
  have h6 := of_decide_eq_true h6
  exact ⟨of_decide_eq_true h5.1, h6⟩
theorem okUb_ok {u : Un} (h : okUb u = true) : ∀ i, i < 8 → okG (u.guest i) ∧ (u.guest i).done.length ≤ 1 := fun i hi => by
  unfold okUb at h
  have h1 := List.all_eq_true.1 h i (List.mem_range.2 hi)
  rw [Bool.and_eq_true] at h1
  exact ⟨okGb_ok h1.1, of_decide_eq_true h1.2⟩
def goodTb (t : Tb) : Bool := ((List.range 8).all fun i => decide (0 ≤ t.K i ∧ t.K i < 18446744073709551616)) && decide (0 ≤ t.gen ∧ t.gen < 4294967296) && decide (t.hold = -1 ∧ t.typ = 0)
theorem goodTb_ok {t : Tb} (h : goodTb t = true) : goodT t := by
  unfold goodTb at h
  rw [Bool.and_eq_true, Bool.and_eq_true] at h
  exact ⟨⟨fun i hi => of_decide_eq_true (List.all_eq_true.1 h.1.1 i (List.mem_range.2 hi)), of_decide_eq_true h.1.2⟩, .inl (of_decide_eq_true h.2)⟩
def fineb (u : Un) : Bool := goodTb u.t && okCb u && smallb u
theorem fineb_ok {u : Un} (h : fineb u = true) : goodU u ∧ small 999000 u := by
  unfold fineb at h
  rw [Bool.and_eq_true, Bool.and_eq_true] at h
  refine ⟨⟨goodTb_ok h.1.1, okCb_ok h.1.2⟩, fun i hi => ?_⟩
  have h0 := h.2
  unfold smallb at h0
  have h1 := List.all_eq_true.1 h0 i (List.mem_range.2 hi)
  have h2 : (u.guest i).codes.length ≤ 1000 := by simpa using h1
  omega
theorem kn0_ok : goodU (newU 4) ∧ small 999000 (newU 4) := fineb_ok (by decide +kernel)
theorem kn1_ok : goodU kn1 ∧ small 999000 kn1 := fineb_ok (by decide +kernel)
theorem kn2_ok : goodU kn2 ∧ small 999000 kn2 := fineb_ok (by decide +kernel)
theorem kn3_ok : goodU kn3 ∧ small 999000 kn3 := fineb_ok (by decide +kernel)
theorem cm_okC {k a n t : Int} {d : List UInt8} {f : Bool} : okCm ⟨k, a, n, d, 0, 0, t, f⟩ := ⟨⟨Int.le_refl 0, by show (0 : Int) < _; decide⟩, Int.le_refl 0, by show (0 : Int) < _; decide⟩
theorem kn2_d : ∀ x ∈ (kn2.guest 0).done, x.2.data.length ≤ 1000000 := fun x hx => by
  have h : (kn2.guest 0).done.all (fun x => decide (x.2.data.length ≤ 1000000)) = true := by decide +kernel
  exact of_decide_eq_true (List.all_eq_true.1 h x hx)
theorem kn4_s : kn4.s = writeS (newS 4) 1 abc := by kernel_rfl
theorem kn4_t : kn4.t = newT := by kernel_rfl
theorem kn4_cap : capS kn4.s := by
  rw [kn4_s]
  exact cap_write (newS_wf (by decide) (by decide)) cap_new (by decide)
theorem newT_ok : okT newT := ⟨fun i hi => ⟨Int.le_refl 0, by show (0 : Int) < _; decide⟩, by decide, by decide⟩
theorem kn4_okT : okT kn4.t := by rw [kn4_t]; exact newT_ok
theorem kn4_g : ∀ i, i < 8 → okG (kn4.guest i) ∧ (kn4.guest i).done.length ≤ 1 := okUb_ok (by decide +kernel)
theorem kn4_N : kn4.s.N = 4 := by decide +kernel
def knB : List UInt8 := encU kn4 (SpM.encS kn4.s)
theorem knB_s : (SpM.encS kn4.s).length ≤ 10000000000 := by decide +kernel
theorem knB_len : knB.length ≤ 100000 := by decide +kernel
theorem knB_0 : ∀ u, decU0 knB = some u → ∀ i, i < 8 → okG (u.guest i) ∧ (u.guest i).done.length ≤ 1 := fun u hu => by
  have h : (match decU0 knB with | some u => okUb u | none => true) = true := by decide +kernel
  rw [hu] at h
  exact okUb_ok h
theorem knB_1 : ∃ u, decU knB = some u := by
  have h : (decU knB).isSome = true := by decide +kernel
  exact Option.isSome_iff_exists.1 h
theorem knB_2 {u : Un} (hu : decU knB = some u) : goodU u ∧ small 999000 u ∧ ∃ u', doM u 0 cmR = (u', gave abc) := by
  have h : (match decU knB with | some u => fineb u && decide ((doM u 0 cmR).2 = gave abc) | none => true) = true := by decide +kernel
  rw [hu] at h
  simp only [Bool.and_eq_true] at h
  exact ⟨(fineb_ok h.1).1, (fineb_ok h.1).2, (doM u 0 cmR).1, by rw [← of_decide_eq_true h.2]⟩
end Go.Sl.UnM
/-
  A unit: the law's own unit: the contracts. Lines of walks printed by a program of the prover's.
-/
namespace Go.Proofs.YtjbgiingimhnnaaGreat
open Go.Proofs.Tryz
open Go Go.Sl Go.Sl.BitM Go.Sl.SpM Go.Sl.RsM Go.Sl.ByM Go.Sl.UnM
set_option linter.unusedVariables false
set_option linter.unusedSimpArgs false
set_option maxHeartbeats 1000000
set_option maxRecDepth 8000
variable {W0 w : World} {L F : List HProp}
theorem uknown_ok (h : On W0 F w) : Calls Tryz.prog 5 #[] w (Ret fun v w' => v = .bool true ∧ On W0 F w') := by
  refine enter func5 rfl ntmps5 rfl (W.seq (W.region (WL.val run_assign rfl rfl (WL.nil (W.seq (W.region (WL.eff (eff_call call10 (unew_ok (pool := []) h)) rfl rfl ?_)))))))
  rintro _ w hv
  rcases hv with ⟨N, hN, h1N, hN2, bu, ms0, rfl, h⟩ | ⟨hno, _, _⟩
  rotate_left
  · exact absurd (by decide) hno
  have ob_ : N = 4 := by omega
  obtain rfl := ob_
  have h := h.pool0
  refine WL.val run_move rfl rfl (WL.val (run_extract rfl rfl) rfl rfl (WL.val (run_extract rfl rfl) rfl rfl (WL.val run_assign rfl rfl (WL.val run_assign rfl rfl (WL.nil (W.seq (W.seq ?_)))))))
  refine W.region (WL.val run_move rfl rfl (WL.val (run_neqF rfl rfl (rfl)) rfl rfl (WL.val run_move rfl rfl (WL.val run_move rfl rfl (WL.val (run_eqlPtrNil underlying31 rfl rfl) rfl rfl (WL.val (run_pickF rfl) rfl rfl (WL.nil ?_)))))))
  refine W.condF rfl (W.skip (W.seq (W.region (WL.val run_move rfl rfl (WL.eff (eff_mkRow (out := [.int .u8 _, .int .u8 _, .int .u8 _, .int .u8 _, .int .u8 _, .int .u8 _, .int .u8 _, .int .u8 _]) h underlying22 sizeOf5 zeroValue5 rfl (by decide) rfl rfl rfl) rfl rfl ?_)))))
  rintro _ w ⟨b24, rfl, h⟩
  refine WL.eff (eff_ofString h rfl (by omega) underlying22 underlying5) rfl rfl ?_
  rintro _ w ⟨rfl, h⟩
  refine WL.val (run_buildS (pl := [(0, 1), (1, 1), (2, 1), (3, 1), (4, 1), (5, 1), (6, 1), (7, 1)]) (out := [.int .i64 _, .int .i64 _, .int .i64 _, .slice _ _ _, .int .u64 _, .int .u64 _, .int .i64 _, .bool _]) underlying25 zeroValue25 (fun w => by kernel_rfl) rfl (⟨⟨_, _, rfl, rfl, by decide⟩, ⟨⟨_, _, rfl, rfl, by decide⟩, ⟨⟨_, _, rfl, rfl, by decide⟩, ⟨⟨_, _, rfl, rfl, by decide⟩, trivial⟩⟩⟩⟩) rfl) rfl rfl ?_
  refine WL.eff (eff_call call16 (uuonce_ok (i := 0) (id := 1) (floor := 0) (kind := 3) (at_ := 1) (n := 1) (data := abc) (key := 0) (new := 0) (typ := 0) (force := false) (u := (newU 4)) (pool := []) (ms := ms0) (by decide) (kn0_ok).2 (kn0_ok).1 cm_okC (fun x hx => by cases hx) ((h.fetch (Pool [])).fetch (UnP 68 105 113 bu [] ms0 (newU 4))) (Gives.ownO (v := .slice (some ⟨b24, 0, none⟩) 8 8)) (by decide))) rfl rfl ?_
  rintro _ w ⟨u1_, r1_, f1_, dv1, ms1, pool1, he, rfl, _, h⟩
  have he := he.symm.trans kn1_eq
  simp only [Prod.mk.injEq] at he
  obtain ⟨rfl, rfl, rfl⟩ := he
  have of_ := Own.form h
  obtain ⟨ad1, cd1, hdv, _⟩ := of_
  subst hdv
  have h : On W0 (OwnB (.slice ad1 ([] : List UInt8).length cd1) [] :: _) w := h
  refine WL.val run_move rfl rfl (WL.val (run_extract rfl rfl) rfl rfl (WL.val (run_extract rfl rfl) rfl rfl (WL.eff (eff_alloc h zeroValue36 rfl) rfl rfl ?_)))
  rintro _ w ⟨b3, rfl, h⟩
  refine WL.eff (eff_storeW (vs := [.int .i64 _, .int .i64 _, .int .i64 _, .slice _ _ _, .int .i64 _]) h sizeOf36 rfl rfl rfl rfl rfl) rfl rfl ?_
  rintro _ w h
  refine WL.val run_assign rfl rfl (WL.nil (W.seq (W.region (WL.val run_move rfl rfl (WL.val (run_buildS (pl := [(0, 1), (1, 1), (2, 1), (3, 1), (4, 1), (5, 1), (6, 1), (7, 1)]) (out := [.int .i64 _, .int .i64 _, .int .i64 _, .slice _ _ _, .int .u64 _, .int .u64 _, .int .i64 _, .bool _]) underlying25 zeroValue25 (fun w => by kernel_rfl) rfl (⟨⟨_, _, rfl, rfl, by decide⟩, ⟨⟨_, _, rfl, rfl, by decide⟩, ⟨⟨_, _, rfl, rfl, by decide⟩, trivial⟩⟩⟩) rfl) rfl rfl (WL.eff (eff_call call8 (udo_ok (hh := 1) (kind := 2) (at_ := 1) (n := 1) (data := []) (key := 0) (new := 0) (typ := 0) (force := false) (u := kn1) (kn1_ok).2 (kn1_ok).1 cm_okC (h.fetch (UnP 68 105 113 bu pool1 ms1 kn1)) Gives.nilB (by decide))) rfl rfl ?_))))))
  rintro _ w ⟨u1_, r1_, dv2, he, rfl, h⟩
  have he := he.symm.trans kn2_eq
  simp only [Prod.mk.injEq] at he
  obtain ⟨rfl, rfl⟩ := he
  have of_ := Own.form h
  obtain ⟨ad2, cd2, hdv, _⟩ := of_
  subst hdv
  have h : On W0 (OwnB (.slice ad2 (abc).length cd2) (abc) :: _) w := h
  refine WL.eff (eff_alloc h zeroValue36 rfl) rfl rfl ?_
  rintro _ w ⟨b5, rfl, h⟩
  refine WL.eff (eff_storeW (vs := [.int .i64 _, .int .i64 _, .int .i64 _, .slice _ _ _, .int .i64 _]) h sizeOf36 rfl rfl rfl rfl rfl) rfl rfl ?_
  rintro _ w h
  refine WL.nil (W.seq (W.region (WL.val run_move rfl rfl (WL.val (run_buildS (pl := [(0, 1), (1, 1), (2, 1), (3, 1), (4, 1), (5, 1), (6, 1), (7, 1)]) (out := [.int .i64 _, .int .i64 _, .int .i64 _, .slice _ _ _, .int .u64 _, .int .u64 _, .int .i64 _, .bool _]) underlying25 zeroValue25 (fun w => by kernel_rfl) rfl (⟨⟨_, _, rfl, rfl, by decide⟩, ⟨⟨_, _, rfl, rfl, by decide⟩, ⟨⟨_, _, rfl, rfl, by decide⟩, trivial⟩⟩⟩) rfl) rfl rfl (WL.eff (eff_call call16 (uuonce_ok (i := 0) (id := 1) (floor := 0) (kind := 2) (at_ := 1) (n := 1) (data := []) (key := 0) (new := 0) (typ := 0) (force := false) (u := kn2) (pool := pool1) (ms := ms1) (by decide) (kn2_ok).2 (kn2_ok).1 cm_okC kn2_d ((h.fetch (Pool pool1)).fetch (UnP 68 105 113 bu pool1 ms1 kn2)) Gives.nilB (by decide))) rfl rfl ?_)))))
  rintro _ w ⟨u1_, r1_, f1_, dv3, ms3, pool3, he, rfl, _, h⟩
  have he := he.symm.trans kn3_eq
  simp only [Prod.mk.injEq] at he
  obtain ⟨rfl, rfl, rfl⟩ := he
  have of_ := Own.form h
  obtain ⟨ad3, cd3, hdv, _⟩ := of_
  subst hdv
  have h : On W0 (OwnB (.slice ad3 ([] : List UInt8).length cd3) [] :: _) w := h
  refine WL.val run_move rfl rfl (WL.val (run_extract rfl rfl) rfl rfl (WL.val (run_extract rfl rfl) rfl rfl (WL.eff (eff_alloc h zeroValue36 rfl) rfl rfl ?_)))
  rintro _ w ⟨b6, rfl, h⟩
  refine WL.eff (eff_storeW (vs := [.int .i64 _, .int .i64 _, .int .i64 _, .slice _ _ _, .int .i64 _]) h sizeOf36 rfl rfl rfl rfl rfl) rfl rfl ?_
  rintro _ w h
  refine WL.val run_assign rfl rfl (WL.nil (W.seq (W.region (WL.val run_move rfl rfl (WL.val (run_buildS (pl := [(0, 1), (1, 1), (2, 1), (3, 1), (4, 1), (5, 1), (6, 1), (7, 1)]) (out := [.int .i64 _, .int .i64 _, .int .i64 _, .slice _ _ _, .int .u64 _, .int .u64 _, .int .i64 _, .bool _]) underlying25 zeroValue25 (fun w => by kernel_rfl) rfl (⟨⟨_, _, rfl, rfl, by decide⟩, trivial⟩) rfl) rfl rfl (WL.eff (eff_call call8 (udo_ok (hh := 9) (kind := 2) (at_ := 0) (n := 0) (data := []) (key := 0) (new := 0) (typ := 0) (force := false) (u := kn3) (kn3_ok).2 (kn3_ok).1 cm_okC (h.fetch (UnP 68 105 113 bu pool3 ms3 kn3)) Gives.nilB (by decide))) rfl rfl ?_))))))
  rintro _ w ⟨u1_, r1_, dv4, he, rfl, h⟩
  have he := he.symm.trans kn4_eq
  simp only [Prod.mk.injEq] at he
  obtain ⟨rfl, rfl⟩ := he
  have of_ := Own.form h
  obtain ⟨ad4, cd4, hdv, _⟩ := of_
  subst hdv
  have h : On W0 (OwnB (.slice ad4 ([] : List UInt8).length cd4) ([] : List UInt8) :: _) w := h
  refine WL.eff (eff_alloc h zeroValue36 rfl) rfl rfl ?_
  rintro _ w ⟨b8, rfl, h⟩
  refine WL.eff (eff_storeW (vs := [.int .i64 _, .int .i64 _, .int .i64 _, .slice _ _ _, .int .i64 _]) h sizeOf36 rfl rfl rfl rfl rfl) rfl rfl ?_
  rintro _ w h
  refine WL.nil (W.seq (W.region (WL.val run_move rfl rfl (WL.eff (eff_call call17 (uencode_ok (u := kn4) (pool := pool3) (ms := ms3) kn4_cap kn4_okT kn4_g knB_s ((h.fetch (Pool pool3)).fetch (UnP 68 105 113 bu pool3 ms3 kn4)))) rfl rfl ?_))))
  rintro v44 w ⟨a44, hv44, h⟩
  have ob_ : ∃ E, E = knB := ⟨_, rfl⟩
  obtain ⟨E, hEq⟩ := ob_
  have hEq2 : encU kn4 (SpM.encS kn4.s) = E := hEq.symm
  rw [hEq2] at hv44 h
  subst hv44
  refine WL.eff (eff_call call7 (udecode_ok (tF := To.refl) (b := E) (ab0 := a44) (cb0 := E.length) (by rw [hEq]; exact knB_len) (by rw [hEq]; exact knB_0) h (Gives.ownO (v := .slice a44 E.length E.length)))) rfl rfl ?_
  rintro _ w hv
  rcases hv with ⟨u4, bu2, ms4, pool4, hdu, rfl, h⟩ | ⟨hno, rfl, h⟩
  rotate_left
  · rw [hEq] at hno; have hk := knB_1; rw [hno] at hk; obtain ⟨_, hk⟩ := hk; cases hk
  rw [hEq] at hdu
  have hk2 := knB_2 hdu
  obtain ⟨hkC, hkS, u5, hk5⟩ := hk2
  refine WL.val run_move rfl rfl (WL.val (run_extract rfl rfl) rfl rfl (WL.val (run_extract rfl rfl) rfl rfl (WL.val run_assign rfl rfl (WL.val run_assign rfl rfl (WL.nil (W.seq (W.seq ?_)))))))
  refine W.region (WL.val run_move rfl rfl (WL.val (run_neqF rfl rfl (rfl)) rfl rfl (WL.val run_move rfl rfl (WL.val run_move rfl rfl (WL.val (run_eqlPtrNil underlying31 rfl rfl) rfl rfl (WL.val (run_pickF rfl) rfl rfl (WL.nil ?_)))))))
  refine W.condF rfl (W.skip (W.seq (W.region (WL.val run_move rfl rfl (WL.val (run_buildS (pl := [(0, 1), (1, 1), (2, 1), (3, 1), (4, 1), (5, 1), (6, 1), (7, 1)]) (out := [.int .i64 _, .int .i64 _, .int .i64 _, .slice _ _ _, .int .u64 _, .int .u64 _, .int .i64 _, .bool _]) underlying25 zeroValue25 (fun w => by kernel_rfl) rfl (⟨⟨_, _, rfl, rfl, by decide⟩, ⟨⟨_, _, rfl, rfl, by decide⟩, ⟨⟨_, _, rfl, rfl, by decide⟩, trivial⟩⟩⟩) rfl) rfl rfl (WL.eff (eff_call call8 (udo_ok (hh := 0) (kind := 2) (at_ := 1) (n := 1) (data := []) (key := 0) (new := 0) (typ := 0) (force := false) (u := u4) ((And.intro hkC hkS)).2 ((And.intro hkC hkS)).1 cm_okC (h.fetch (UnP 68 105 113 bu2 pool4 ms4 u4)) Gives.nilB (by decide))) rfl rfl ?_))))))
  rintro _ w ⟨u1_, r1_, dv5, he, rfl, h⟩
  have he := he.symm.trans hk5
  simp only [Prod.mk.injEq] at he
  obtain ⟨rfl, rfl⟩ := he
  have of_ := Own.form h
  obtain ⟨ad5, cd5, hdv, _⟩ := of_
  subst hdv
  have h : On W0 (OwnB (.slice ad5 (abc).length cd5) (abc) :: _) w := h
  refine WL.eff (eff_alloc h zeroValue36 rfl) rfl rfl ?_
  rintro _ w ⟨b11, rfl, h⟩
  refine WL.eff (eff_storeW (vs := [.int .i64 _, .int .i64 _, .int .i64 _, .slice _ _ _, .int .i64 _]) h sizeOf36 rfl rfl rfl rfl rfl) rfl rfl ?_
  rintro _ w h
  refine WL.nil (W.seq (W.region (WL.val run_move rfl rfl (WL.val run_move rfl rfl (WL.val run_move rfl rfl (WL.val (run_not rfl) rfl rfl (WL.val (run_pickT rfl) rfl rfl ?_)))))))
  refine WL.val run_move rfl rfl (WL.val (run_fieldAddr 0 underlying36 rfl sizeOf3 rfl rfl) rfl rfl (WL.val (run_load1 isAgg3 rfl (h.cellB rfl)) rfl rfl (WL.val (run_eqlT rfl rfl (rfl)) rfl rfl (WL.val (run_pickT rfl) rfl rfl (WL.val run_move rfl rfl (WL.val (run_fieldAddr 3 underlying36 rfl sizeOf22 rfl rfl) rfl rfl (WL.val (run_load1 isAgg22 rfl (h.cellB rfl)) rfl rfl ?_)))))))
  refine WL.val (run_bytesStr underlying22 underlying5 underlying9 rfl (h.cellsO (v := .slice ad2 abc.length cd2))) rfl rfl (WL.val (run_eqlStrT rfl rfl (rfl)) rfl rfl (WL.val (run_pickT rfl) rfl rfl (WL.val run_move rfl rfl (WL.val (run_loadB (vs := [.int .i64 _, .int .i64 _, .int .i64 _, .slice _ _ _, .int .i64 _]) h isAgg36 sizeOf36 rfl rfl rfl) rfl rfl (WL.val (run_loadB (vs := [.int .i64 _, .int .i64 _, .int .i64 _, .slice _ _ _, .int .i64 _]) h isAgg36 sizeOf36 rfl rfl rfl) rfl rfl (WL.eff (eff_call call18 (usame_ok (s1 := 0) (k1 := 0) (c1 := 0) (i1 := 0) (d1 := []) (s2 := 0) (k2 := 0) (c2 := 0) (i2 := 0) (d2 := []) h (Gives.ownO (v := .slice ad1 ([] : List UInt8).length cd1)) (Gives.ownO (v := .slice ad3 ([] : List UInt8).length cd3)))) rfl rfl ?_))))))
  rintro _ w ⟨rfl, h⟩
  refine WL.val (run_pickT rfl) rfl rfl (WL.val run_move rfl rfl (WL.val (run_fieldAddr 2 underlying36 rfl sizeOf3 rfl rfl) rfl rfl (WL.val (run_load1 isAgg3 rfl (h.cellB rfl)) rfl rfl (WL.val (run_eqlT rfl rfl (rfl)) rfl rfl (WL.val (run_pickT rfl) rfl rfl (WL.val run_move rfl rfl (WL.val (run_fieldAddr 3 underlying36 rfl sizeOf22 rfl rfl) rfl rfl ?_)))))))
  refine WL.val (run_load1 isAgg22 rfl (h.cellB rfl)) rfl rfl (WL.val (run_bytesStr underlying22 underlying5 underlying9 rfl (h.cellsO (v := .slice ad5 abc.length cd5))) rfl rfl (WL.val (run_eqlStrT rfl rfl (rfl)) rfl rfl (WL.val (run_pickT rfl) rfl rfl (WL.val run_move rfl rfl (WL.val run_move rfl rfl (WL.eff (eff_call call9 (ublocks_ok (u := kn4) (bu := bu) (pool := pool3) (ms := ms3) (h.fetch (UnP 68 105 113 bu pool3 ms3 kn4)))) rfl rfl ?_))))))
  rintro _ w ⟨rfl, h⟩
  refine WL.val (run_eqlT rfl rfl (by rw [kn4_N]; rfl)) rfl rfl (WL.val (run_pickT rfl) rfl rfl (WL.val run_assign rfl rfl (WL.nil (W.ret (bodyQ.r1 (v := .bool _) results5 rfl ?_)))))
  exact ⟨rfl, h.to⟩
end Go.Proofs.YtjbgiingimhnnaaGreat
/-
  Laws of a unit on plain data: attentions, blocks in any order. No program is named here.
-/
namespace Go.Sl.UnM
open Go Go.Sl Go.Sl.BitM Go.Sl.SpM Go.Sl.RsM Go.Sl.ByM
set_option linter.unusedVariables false
def at1 : Un := resetN (newU 4) 8
end Go.Sl.UnM
namespace Go.Sl.UnM
open Go Go.Sl Go.Sl.BitM Go.Sl.SpM Go.Sl.RsM Go.Sl.ByM
end Go.Sl.UnM
/-
  A command as an argument reads. No program is named here.
-/
namespace Go.Sl.UnM
open Go Go.Sl Go.Sl.BitM Go.Sl.SpM Go.Sl.RsM Go.Sl.ByM
set_option linter.unusedVariables false
/-- A command as an argument reads. -/
structure CmX where
  kind : Int
  at_ : Int
  n : Int
  ax : Option Addr
  ac : Nat
  bs : List UInt8
  key : Int
  new : Int
  typ : Int
  force : Bool
def CmX.cells (c : CmX) : List Value := [.int .i64 c.kind, .int .i64 c.at_, .int .i64 c.n, .slice c.ax c.bs.length c.ac, .int .u64 c.key, .int .u64 c.new, .int .i64 c.typ, .bool c.force]
def CmX.cm (c : CmX) : Cm := ⟨c.kind, c.at_, c.n, c.bs, c.key, c.new, c.typ, c.force⟩
end Go.Sl.UnM
/-
  Commands of blocks, one behind the other: the bytes that are kept beside. No program is named here.
-/
namespace Go.Sl.UnM
open Go Go.Sl Go.Sl.BitM Go.Sl.SpM Go.Sl.RsM Go.Sl.ByM
set_option linter.unusedVariables false
/-- An act of a play. -/
structure A17 where
  h : Int
  c : CmX
  once : Bool
  id : Int
  floor : Int
  code : Bool
def A17.cells (a : A17) : List Value := .int .i64 a.h :: (a.c.cells ++ [.bool a.once, .int .u64 a.id, .int .u64 a.floor, .bool a.code])
theorem A17.cells_length (a : A17) : a.cells.length = 13 := rfl
/-! ### What each command does to the bytes -/
section
variable {s : Sp} {p q : Nat} {bs : List UInt8} {k n t : Int} {f : Bool}
end
end Go.Sl.UnM
namespace Go.Sl
open Go
theorem cell_at {w : World} {b o p : Nat} {vs : List Value} {v : Value} (H : ∀ j u, vs[j]? = some u → w.cell? ⟨b, o + j, none⟩ = some u) (q : Nat) (e : vs[p + q]? = some v) : w.cell? ⟨b, o + p + q, none⟩ = some v := by
  rw [Nat.add_assoc]; exact H _ _ e
end Go.Sl
namespace Go.Sl
open Go
end Go.Sl
namespace Go.Sl.UnM
open Go Go.Sl Go.Sl.BitM Go.Sl.SpM Go.Sl.RsM Go.Sl.ByM
end Go.Sl.UnM
/-
  The document's unit: acts on both, what waits: the contracts. Lines of walks printed by a program of the prover's.
-/
namespace Go.Proofs.YtjbgiingimhnnaaGreat
open Go.Proofs.Tryz
open Go Go.Sl Go.Sl.BitM Go.Sl.SpM Go.Sl.RsM Go.Sl.ByM Go.Sl.UnM
set_option linter.unusedVariables false
set_option linter.unusedSimpArgs false
set_option maxHeartbeats 1000000
set_option maxRecDepth 8000
variable {W0 w : World} {L F : List HProp}
theorem tdoonce_ok {bu br : Nat} {hh id floor : Int} {code : Bool} {u : Un} {pool : PoolL} {pc : PoolK} {ms : List Nat} {kind at_ n key new typ : Int} {force : Bool} {data : List UInt8} {ax : Option Addr} {cx : Nat} {i : Nat} (hi : i < 8) (ehh : hh = (i : Int)) (hsm : small 999000 u) (hgu_ : goodU u) (hsh : shortU u) (hcm : okCm (⟨kind, at_, n, data, key, new, typ, force⟩ : Cm)) (h : On W0 (UnP 68 105 113 bu pool ms u :: RefU 89 94 137 br pc u :: Pool pool :: PoolC pc :: L) w) (C : Gives L (Bytes (.slice ax data.length cx) data)) (hd : data.length ≤ 1000000) : Calls Tryz.prog 12 #[.pointer (some ⟨bu, 0, none⟩), .pointer (some ⟨br, 0, none⟩), .agg #[.int .i64 hh, .int .i64 kind, .int .i64 at_, .int .i64 n, .slice ax data.length cx, .int .u64 key, .int .u64 new, .int .i64 typ, .bool force, .bool true, .int .u64 id, .int .u64 floor, .bool code]] w (Ret fun v w' => ∃ pool' pc' ms', (∀ p ∈ pool, p ∈ pool') ∧ subK pc pc' ∧ v = .bool true ∧ On W0 (UnP 68 105 113 bu pool' ms' (onceM u i id floor (⟨kind, at_, n, data, key, new, typ, force⟩ : Cm)).1 :: RefU 89 94 137 br pc' (onceM u i id floor (⟨kind, at_, n, data, key, new, typ, force⟩ : Cm)).1 :: Pool pool' :: PoolC pc' :: L) w') := by
  refine enter func12 rfl ntmps12 rfl ?_
  subst ehh
  have hdl := hsh i hi
  refine W.seq (W.region (WL.eff (eff_box (v := .agg _) (l := [.int .i64 (i : Int), .int .i64 kind, .int .i64 at_, .int .i64 n, .slice ax data.length cx, .int .u64 key, .int .u64 new, .int .i64 typ, .bool force, .bool true, .int .u64 id, .int .u64 floor, .bool code]) h rfl rfl) rfl rfl ?_))
  rintro _ w ⟨b5, rfl, h⟩
  refine WL.val run_assign rfl rfl (WL.nil (W.seq (W.seq (W.region (WL.val (run_fieldAddr 9 underlying27 rfl sizeOf4 rfl rfl) rfl rfl (WL.val (run_load1 isAgg4 rfl (h.cellB rfl)) rfl rfl (WL.nil ?_)))))))
  refine W.condT rfl (W.seq (W.region (WL.val run_move rfl rfl (WL.val (run_fieldAddr 0 underlying27 rfl sizeOf3 rfl rfl) rfl rfl (WL.val (run_load1 isAgg3 rfl (h.cellB rfl)) rfl rfl (WL.val (run_fieldAddr 10 underlying27 rfl sizeOf23 rfl rfl) rfl rfl (WL.val (run_load1 isAgg23 rfl (h.cellB rfl)) rfl rfl ?_)))))))
  refine WL.val (run_fieldAddr 11 underlying27 rfl sizeOf23 rfl rfl) rfl rfl (WL.val (run_load1 isAgg23 rfl (h.cellB rfl)) rfl rfl (WL.val (run_fieldAddr 1 underlying27 rfl sizeOf25 rfl rfl) rfl rfl (WL.val (run_loadB (vs := [.int .i64 _, .int .i64 _, .int .i64 _, .slice _ _ _, .int .u64 _, .int .u64 _, .int .i64 _, .bool _]) h isAgg25 sizeOf25 rfl rfl rfl) rfl rfl (WL.eff (eff_call call16 (uuonce_ok (i := i) (u := u) (pool := pool) (ms := ms) (kind := kind) (at_ := at_) (n := n) (data := data) (key := key) (new := new) (typ := typ) (force := force) hi hsm hgu_ hcm (fun x hx => Nat.le_trans (hdl.2 x hx) (by decide)) ((h.fetch (Pool pool)).fetch (UnP 68 105 113 bu pool ms u)) (Gives.to C) hd)) rfl rfl ?_))))
  rintro _ w ⟨u1, ⟨s1, k1, c1, d1, i1⟩, f1, dv1, ms1, pool1, he1, rfl, hs1, h⟩
  have of_ := Own.form h
  obtain ⟨ad, cd, hdv, _⟩ := of_
  subst hdv
  have h : On W0 (OwnB (.slice ad d1.length cd) d1 :: _) w := h
  refine WL.val run_move rfl rfl (WL.val (run_extract rfl rfl) rfl rfl (WL.val (run_extract rfl rfl) rfl rfl (WL.eff (eff_alloc h zeroValue36 rfl) rfl rfl ?_)))
  rintro _ w ⟨b7, rfl, h⟩
  refine WL.eff (eff_storeW (vs := [.int .i64 _, .int .i64 _, .int .i64 _, .slice _ _ _, .int .i64 _]) h sizeOf36 rfl rfl rfl rfl rfl) rfl rfl ?_
  rintro _ w h
  refine WL.val run_assign rfl rfl (WL.nil (W.seq (W.region (WL.val run_move rfl rfl (WL.val (run_fieldAddr 0 underlying27 rfl sizeOf3 rfl rfl) rfl rfl (WL.val (run_load1 isAgg3 rfl (h.cellB rfl)) rfl rfl (WL.val (run_fieldAddr 10 underlying27 rfl sizeOf23 rfl rfl) rfl rfl ?_)))))))
  refine WL.val (run_load1 isAgg23 rfl (h.cellB rfl)) rfl rfl (WL.val (run_fieldAddr 11 underlying27 rfl sizeOf23 rfl rfl) rfl rfl (WL.val (run_load1 isAgg23 rfl (h.cellB rfl)) rfl rfl (WL.val (run_fieldAddr 1 underlying27 rfl sizeOf25 rfl rfl) rfl rfl (WL.val (run_loadB (vs := [.int .i64 _, .int .i64 _, .int .i64 _, .slice _ _ _, .int .u64 _, .int .u64 _, .int .i64 _, .bool _]) h isAgg25 sizeOf25 rfl rfl rfl) rfl rfl (WL.eff (eff_call call36 (ronce_ok (bu := br) (i := i) (u := u) (pc := pc) (kind := kind) (at_ := at_) (n := n) (data := data) (key := key) (new := new) (typ := typ) (force := force) hi hsm hgu_ hcm hdl.1 ((h.fetch (PoolC pc)).fetch (RefU 89 94 137 br pc u)) (Gives.to C) hd)) rfl rfl ?_)))))
  rintro _ w ⟨pc2, u2, r2, f2, dv2, he2, rfl, hs2, hin2, h⟩
  have he := he1.symm.trans he2
  simp only [Prod.mk.injEq] at he
  obtain ⟨hu, hr, hf⟩ := he
  subst hu
  subst hr
  subst hf
  have hdf := rslice_of ((h.fetch (PoolC pc2)).fetch (RefU 89 94 137 br pc2 u1)) hin2
  obtain ⟨a2, c2x, hdf⟩ := hdf
  subst hdf
  refine WL.val run_move rfl rfl (WL.val (run_extract rfl rfl) rfl rfl (WL.val (run_extract rfl rfl) rfl rfl (WL.eff (eff_alloc h zeroValue36 rfl) rfl rfl ?_)))
  rintro _ w ⟨b9, rfl, h⟩
  refine WL.eff (eff_storeW (vs := [.int .i64 _, .int .i64 _, .int .i64 _, .slice _ _ _, .int .i64 _]) h sizeOf36 rfl rfl rfl rfl rfl) rfl rfl ?_
  rintro _ w h
  refine WL.val run_assign rfl rfl (WL.nil (W.seq (W.region (WL.val (run_loadB (vs := [.int .i64 _, .int .i64 _, .int .i64 _, .slice _ _ _, .int .i64 _]) h isAgg36 sizeOf36 rfl rfl rfl) rfl rfl (WL.val (run_loadB (vs := [.int .i64 _, .int .i64 _, .int .i64 _, .slice _ _ _, .int .i64 _]) h isAgg36 sizeOf36 rfl rfl rfl) rfl rfl (WL.eff (eff_call call37 (usameR_ok (s1 := s1) (k1 := k1) (c1 := c1) (i1 := i1) (d1 := d1) (s2 := s1) (k2 := k1) (c2 := c1) (i2 := i1) (d2 := d1) h (Gives.ownO (v := .slice ad d1.length cd)) (Gives.to (T := [PoolC pc2]) (Gives.poolC hin2)))) rfl rfl ?_))))))
  rintro _ w ⟨hv, h⟩
  rw [decide_eq_true rfl] at hv
  subst hv
  refine WL.val run_move rfl rfl (WL.val run_move rfl rfl (WL.val run_move rfl rfl (WL.val (run_eqlBool underlying4 rfl rfl) rfl rfl (WL.val (run_pickT rfl) rfl rfl (WL.val run_assign rfl rfl (WL.nil (W.ret ?_)))))))
  refine bodyQ.r1 (v := .bool _) results12 rfl ?_
  have e1 : (onceM u i id floor (⟨kind, at_, n, data, key, new, typ, force⟩ : Cm)).1 = u1 := by rw [he1]
  rw [e1]
  exact ⟨pool1, pc2, ms1, hs1, hs2, congrArg Value.bool (beq_self_eq_true f1), h.to⟩
theorem tdobad_ok {bu br : Nat} {hh id floor : Int} {code : Bool} {u : Un} {pool : PoolL} {pc : PoolK} {ms : List Nat} {kind at_ n key new typ : Int} {force : Bool} {data : List UInt8} {ax : Option Addr} {cx : Nat} (hb : hostB hh = false) (h : On W0 (UnP 68 105 113 bu pool ms u :: RefU 89 94 137 br pc u :: Pool pool :: PoolC pc :: L) w) (C : Gives L (Bytes (.slice ax data.length cx) data)) (hd : data.length ≤ 1000000) : Calls Tryz.prog 12 #[.pointer (some ⟨bu, 0, none⟩), .pointer (some ⟨br, 0, none⟩), .agg #[.int .i64 hh, .int .i64 kind, .int .i64 at_, .int .i64 n, .slice ax data.length cx, .int .u64 key, .int .u64 new, .int .i64 typ, .bool force, .bool true, .int .u64 id, .int .u64 floor, .bool code]] w (Ret fun v w' => v = .bool true ∧ On W0 (UnP 68 105 113 bu pool ms u :: RefU 89 94 137 br pc u :: Pool pool :: PoolC pc :: L) w') := by
  refine enter func12 rfl ntmps12 rfl (W.seq (W.region (WL.eff (eff_box (v := .agg _) (l := [.int .i64 hh, .int .i64 kind, .int .i64 at_, .int .i64 n, .slice ax data.length cx, .int .u64 key, .int .u64 new, .int .i64 typ, .bool force, .bool true, .int .u64 id, .int .u64 floor, .bool code]) h rfl rfl) rfl rfl ?_)))
  rintro _ w ⟨b5, rfl, h⟩
  refine WL.val run_assign rfl rfl (WL.nil (W.seq (W.seq (W.region (WL.val (run_fieldAddr 9 underlying27 rfl sizeOf4 rfl rfl) rfl rfl (WL.val (run_load1 isAgg4 rfl (h.cellB rfl)) rfl rfl (WL.nil ?_)))))))
  refine W.condT rfl (W.seq (W.region (WL.val run_move rfl rfl (WL.val (run_fieldAddr 0 underlying27 rfl sizeOf3 rfl rfl) rfl rfl (WL.val (run_load1 isAgg3 rfl (h.cellB rfl)) rfl rfl (WL.val (run_fieldAddr 10 underlying27 rfl sizeOf23 rfl rfl) rfl rfl (WL.val (run_load1 isAgg23 rfl (h.cellB rfl)) rfl rfl ?_)))))))
  refine WL.val (run_fieldAddr 11 underlying27 rfl sizeOf23 rfl rfl) rfl rfl (WL.val (run_load1 isAgg23 rfl (h.cellB rfl)) rfl rfl (WL.val (run_fieldAddr 1 underlying27 rfl sizeOf25 rfl rfl) rfl rfl (WL.val (run_loadB (vs := [.int .i64 _, .int .i64 _, .int .i64 _, .slice _ _ _, .int .u64 _, .int .u64 _, .int .i64 _, .bool _]) h isAgg25 sizeOf25 rfl rfl rfl) rfl rfl (WL.eff (eff_call call16 (uoncebad_ok (u := u) (pool := pool) (ms := ms) (kind := kind) (at_ := at_) (n := n) (data := data) (key := key) (new := new) (typ := typ) (force := force) hb (h.fetch (UnP 68 105 113 bu pool ms u)))) rfl rfl ?_))))
  rintro _ w ⟨rfl, h⟩
  refine WL.val run_move rfl rfl (WL.val (run_extract rfl rfl) rfl rfl (WL.val (run_extract rfl rfl) rfl rfl (WL.eff (eff_alloc h zeroValue36 rfl) rfl rfl ?_)))
  rintro _ w ⟨b7, rfl, h⟩
  refine WL.eff (eff_storeW (vs := [.int .i64 _, .int .i64 _, .int .i64 _, .slice _ _ _, .int .i64 _]) h sizeOf36 rfl rfl rfl rfl rfl) rfl rfl ?_
  rintro _ w h
  refine WL.val run_assign rfl rfl (WL.nil (W.seq (W.region (WL.val run_move rfl rfl (WL.val (run_fieldAddr 0 underlying27 rfl sizeOf3 rfl rfl) rfl rfl (WL.val (run_load1 isAgg3 rfl (h.cellB rfl)) rfl rfl (WL.val (run_fieldAddr 10 underlying27 rfl sizeOf23 rfl rfl) rfl rfl ?_)))))))
  refine WL.val (run_load1 isAgg23 rfl (h.cellB rfl)) rfl rfl (WL.val (run_fieldAddr 11 underlying27 rfl sizeOf23 rfl rfl) rfl rfl (WL.val (run_load1 isAgg23 rfl (h.cellB rfl)) rfl rfl (WL.val (run_fieldAddr 1 underlying27 rfl sizeOf25 rfl rfl) rfl rfl (WL.val (run_loadB (vs := [.int .i64 _, .int .i64 _, .int .i64 _, .slice _ _ _, .int .u64 _, .int .u64 _, .int .i64 _, .bool _]) h isAgg25 sizeOf25 rfl rfl rfl) rfl rfl (WL.eff (eff_call call36 (roncebad_ok (bu := br) (u := u) (pc := pc) (kind := kind) (at_ := at_) (n := n) (data := data) (key := key) (new := new) (typ := typ) (force := force) hb ((h.fetch (PoolC pc)).fetch (RefU 89 94 137 br pc u)))) rfl rfl ?_)))))
  rintro _ w ⟨rfl, h⟩
  refine WL.val run_move rfl rfl (WL.val (run_extract rfl rfl) rfl rfl (WL.val (run_extract rfl rfl) rfl rfl (WL.eff (eff_alloc h zeroValue36 rfl) rfl rfl ?_)))
  rintro _ w ⟨b9, rfl, h⟩
  refine WL.eff (eff_storeW (vs := [.int .i64 _, .int .i64 _, .int .i64 _, .slice _ _ _, .int .i64 _]) h sizeOf36 rfl rfl rfl rfl rfl) rfl rfl ?_
  rintro _ w h
  refine WL.val run_assign rfl rfl (WL.nil (W.seq (W.region (WL.val (run_loadB (vs := [.int .i64 _, .int .i64 _, .int .i64 _, .slice _ _ _, .int .i64 _]) h isAgg36 sizeOf36 rfl rfl rfl) rfl rfl (WL.val (run_loadB (vs := [.int .i64 _, .int .i64 _, .int .i64 _, .slice _ _ _, .int .i64 _]) h isAgg36 sizeOf36 rfl rfl rfl) rfl rfl (WL.eff (eff_call call37 (usameR_ok (s1 := 8) (k1 := 0) (c1 := 0) (i1 := 0) (d1 := []) (s2 := 8) (k2 := 0) (c2 := 0) (i2 := 0) (d2 := []) h Gives.nilB Gives.nilB)) rfl rfl ?_))))))
  rintro _ w ⟨hv, h⟩
  rw [decide_eq_true rfl] at hv
  subst hv
  refine WL.val run_move rfl rfl (WL.val run_move rfl rfl (WL.val run_move rfl rfl (WL.val (run_eqlBool underlying4 rfl rfl) rfl rfl (WL.val (run_pickT rfl) rfl rfl (WL.val run_assign rfl rfl (WL.nil (W.ret ?_)))))))
  refine bodyQ.r1 (v := .bool _) results12 rfl ?_
  exact ⟨rfl, h.to⟩
theorem tdodo_ok {bu br : Nat} {hh id floor : Int} {code : Bool} {u : Un} {pool : PoolL} {pc : PoolK} {ms : List Nat} {kind at_ n key new typ : Int} {force : Bool} {data : List UInt8} {ax : Option Addr} {cx : Nat} (hsm : small 999000 u) (hgu_ : goodU u) (hcm : okCm (⟨kind, at_, n, data, key, new, typ, force⟩ : Cm)) (h : On W0 (UnP 68 105 113 bu pool ms u :: RefU 89 94 137 br pc u :: Pool pool :: PoolC pc :: L) w) (C : Gives L (Bytes (.slice ax data.length cx) data)) (hd : data.length ≤ 1000000) : Calls Tryz.prog 12 #[.pointer (some ⟨bu, 0, none⟩), .pointer (some ⟨br, 0, none⟩), .agg #[.int .i64 hh, .int .i64 kind, .int .i64 at_, .int .i64 n, .slice ax data.length cx, .int .u64 key, .int .u64 new, .int .i64 typ, .bool force, .bool false, .int .u64 id, .int .u64 floor, .bool code]] w (Ret fun v w' => ∃ pool' pc' ms', (∀ p ∈ pool, p ∈ pool') ∧ subK pc pc' ∧ v = .bool true ∧ On W0 (UnP 68 105 113 bu pool' ms' (doM u hh (⟨kind, at_, n, data, key, new, typ, force⟩ : Cm)).1 :: RefU 89 94 137 br pc' (doM u hh (⟨kind, at_, n, data, key, new, typ, force⟩ : Cm)).1 :: Pool pool' :: PoolC pc' :: L) w') := by
  refine enter func12 rfl ntmps12 rfl (W.seq (W.region (WL.eff (eff_box (v := .agg _) (l := [.int .i64 hh, .int .i64 kind, .int .i64 at_, .int .i64 n, .slice ax data.length cx, .int .u64 key, .int .u64 new, .int .i64 typ, .bool force, .bool false, .int .u64 id, .int .u64 floor, .bool code]) h rfl rfl) rfl rfl ?_)))
  rintro _ w ⟨b5, rfl, h⟩
  refine WL.val run_assign rfl rfl (WL.nil (W.seq (W.seq (W.region (WL.val (run_fieldAddr 9 underlying27 rfl sizeOf4 rfl rfl) rfl rfl (WL.val (run_load1 isAgg4 rfl (h.cellB rfl)) rfl rfl (WL.nil ?_)))))))
  refine W.condF rfl (W.skip (W.seq ?_))
  refine W.draw Tryz.follows h (fun w h => ?_)
  refine WT.pure 0 rfl (by kernel_rfl) (fun w' => run_move) rfl rfl (WT.pure 1 rfl (by kernel_rfl) (fun w' => (run_fieldAddr 0 underlying27 rfl sizeOf3 rfl rfl)) rfl rfl (WT.load1 2 rfl (by kernel_rfl) isAgg3 rfl (h.cellB rfl) rfl rfl (WT.pure 3 rfl (by kernel_rfl) (fun w' => (run_fieldAddr 1 underlying27 rfl sizeOf25 rfl rfl)) rfl rfl (WT.loadN (vs := [.int .i64 _, .int .i64 _, .int .i64 _, .slice _ _ _, .int .u64 _, .int .u64 _, .int .i64 _, .bool _]) 4 rfl (by kernel_rfl) isAgg25 sizeOf25 rfl rfl (h.rowV (n := 8) rfl) rfl rfl (WT.pure 6 rfl (by kernel_rfl) (fun w' => run_move) rfl rfl (WT.pure 7 rfl (by kernel_rfl) (fun w' => (run_fieldAddr 0 underlying27 rfl sizeOf3 rfl rfl)) rfl rfl (WT.load1 8 rfl (by kernel_rfl) isAgg3 rfl (h.cellB rfl) rfl rfl ?_)))))))
  refine WT.pure 9 rfl (by kernel_rfl) (fun w' => (run_fieldAddr 1 underlying27 rfl sizeOf25 rfl rfl)) rfl rfl (WT.loadN (vs := [.int .i64 _, .int .i64 _, .int .i64 _, .slice _ _ _, .int .u64 _, .int .u64 _, .int .i64 _, .bool _]) 10 rfl (by kernel_rfl) isAgg25 sizeOf25 rfl rfl (h.rowV (n := 8) rfl) rfl rfl (WT.eff 5 [true, true, false, false] rfl (by kernel_rfl) (by kernel_rfl) (eff_call call8 (udo_ok (u := u) (pool := pool) (ms := ms) (hh := hh) (kind := kind) (at_ := at_) (n := n) (data := data) (key := key) (new := new) (typ := typ) (force := force) hsm hgu_ hcm (h.fetch (UnP 68 105 113 bu pool ms u)) (Gives.to C) hd)) rfl rfl ?_))
  rintro _ w ⟨u1, ⟨s1, k1, c1, d1, i1⟩, dv1, he1, rfl, h⟩
  have of_ := Own.form h
  obtain ⟨ad, cd, hdv, _⟩ := of_
  subst hdv
  have h : On W0 (OwnB (.slice ad d1.length cd) d1 :: _) w := h
  refine ⟨⟨(h.rowV (n := 8) rfl), h.cellB rfl, trivial⟩, ?_⟩
  refine WT.eff 11 [false, false] rfl (by kernel_rfl) (by kernel_rfl) (eff_call call38 (rdo_ok (bu := br) (u := u) (pc := pc) (hh := hh) (kind := kind) (at_ := at_) (n := n) (data := data) (key := key) (new := new) (typ := typ) (force := force) hsm hgu_ hcm ((h.fetch (PoolC pc)).fetch (RefU 89 94 137 br pc u)) (Gives.to C) hd)) rfl rfl ?_
  rintro _ w ⟨pc2, u2, r2, dv2, he2, rfl, hs2, hin2, h⟩
  have he := he1.symm.trans he2
  simp only [Prod.mk.injEq] at he
  obtain ⟨hu, hr⟩ := he
  subst hu
  subst hr
  have hdf := rslice_of ((h.fetch (PoolC pc2)).fetch (RefU 89 94 137 br pc2 u1)) hin2
  obtain ⟨a2, c2x, hdf⟩ := hdf
  subst hdf
  refine ⟨trivial, ?_⟩
  refine WT.eff 12 [] rfl (by kernel_rfl) (by kernel_rfl) (eff_call call37 (usameR_ok (s1 := s1) (k1 := k1) (c1 := c1) (i1 := i1) (d1 := d1) (s2 := s1) (k2 := k1) (c2 := c1) (i2 := i1) (d2 := d1) h (Gives.ownO (v := .slice ad d1.length cd)) (Gives.to (T := [PoolC pc2]) (Gives.poolC hin2)))) rfl rfl ?_
  rintro _ w ⟨hv, h⟩
  rw [decide_eq_true rfl] at hv
  subst hv
  refine ⟨trivial, ?_⟩
  refine WT.pure 13 rfl (by kernel_rfl) (fun w' => run_assign) rfl rfl (WT.done (by kernel_rfl) (W.ret (bodyQ.r1 (v := .bool _) results12 rfl ?_)))
  have e1 : (doM u hh (⟨kind, at_, n, data, key, new, typ, force⟩ : Cm)).1 = u1 := by rw [he1]
  rw [e1]
  exact ⟨pool, pc2, ms, (fun p hp => hp), hs2, rfl, h.to⟩
theorem ints17_ok {a1 a2 : Option Addr} {x1 x2 : Nat} {l1 l1 : List Int} (h : On W0 L w) (C1 : Gives L (Cells 1 (.slice a1 l1.length x1) l1.length (cV l1))) (C2 : Gives L (Cells 1 (.slice a2 l1.length x2) l1.length (cV l1))) : Calls Tryz.prog 44 #[.slice a1 l1.length x1, .slice a2 l1.length x2] w (Ret fun v w' => v = .bool true ∧ On W0 L w') := by
  refine enter func44 rfl ntmps44 rfl ?_
  have hmx := maxLen_eq
  have hb1_ := (h.readsTo C1).bounds
  obtain ⟨hbc, hbm⟩ := hb1_
  refine W.seq (W.region (WL.val run_assign rfl rfl (WL.nil (W.seq (W.seq (W.region (WL.val run_move rfl rfl ?_)))))))
  refine WL.val (run_lenSlice underlying62 rfl) rfl rfl (WL.val run_move rfl rfl (WL.val (run_lenSlice underlying62 rfl) rfl rfl (WL.val (run_neqF rfl rfl (by simp)) rfl rfl (WL.nil (W.condF rfl (W.skip (W.seq ?_)))))))
  refine W.seq (W.region (WL.val run_assign rfl rfl (WL.nil (W.block ?_))))
  refine W.loop (fun (k : Nat) env w => k ≤ l1.length ∧ ∃ j, env = mkE j [(0, .slice a1 l1.length x1), (1, .slice a2 l1.length x2), (5, .int .i64 (k : Int))] ∧ On W0 L w) (fun k => l1.length - k) (0) ?_ ?_
  · exact ⟨Nat.zero_le _, _, mkE_of ⟨rfl, rfl, rfl, trivial⟩, h⟩
  rintro k env w ⟨hk, j, rfl, h⟩
  refine W.seq (W.seq (W.region (WL.val run_move rfl rfl (WL.val run_move rfl rfl (WL.val (run_lenSlice underlying62 rfl) rfl rfl (WL.val (run_lss rfl rfl) rfl rfl (WL.nil ?_)))))))
  refine W.condIf rfl (fun c10 => ?_) (fun c10 => ?_)
  ·
   refine W.skip (W.seq (W.block (W.seq ?_)))
   have hkl : k < l1.length := by omega
   have hy : l1[k]? = some l1[k] := by simp
   have ad1_ := (h.readsTo C1).addr (by omega)
   obtain ⟨bx, ox, e1⟩ := ad1_
   subst e1
   have ad2_ := (h.readsTo C2).addr (by omega)
   obtain ⟨by2, oy2, e2⟩ := ad2_
   subst e2
   refine W.draw Tryz.follows h (fun w h => ?_)
   refine WT.pure 0 rfl (by kernel_rfl) (fun w' => run_move) rfl rfl (WT.pure 1 rfl (by kernel_rfl) (fun w' => run_move) rfl rfl (WT.pure 2 rfl (by kernel_rfl) (fun w' => (run_indexAddr underlying62 sizeOf3 rfl rfl (by omega) (by omega))) rfl rfl (WT.load1 3 rfl (by kernel_rfl) isAgg3 rfl ((h.readsTo C1).elem (i := k) (vs := [.int .i64 l1[k]]) (by omega) (cV_get hy) 0 _ rfl) rfl rfl (WT.pure 4 rfl (by kernel_rfl) (fun w' => run_move) rfl rfl (WT.pure 5 rfl (by kernel_rfl) (fun w' => run_move) rfl rfl (WT.pure 6 rfl (by kernel_rfl) (fun w' => (run_indexAddr underlying62 sizeOf3 rfl rfl (by omega) (by omega))) rfl rfl (WT.load1 7 rfl (by kernel_rfl) isAgg3 rfl ((h.readsTo C2).elem (i := k) (vs := [.int .i64 l1[k]]) (by omega) (cV_get hy) 0 _ rfl) rfl rfl ?_)))))))
   refine WT.pure 8 rfl (by kernel_rfl) (fun w' => run_neqF rfl rfl (by simp)) rfl rfl (WT.done (by kernel_rfl) (W.condF rfl (W.skip (W.region (WL.val run_move rfl rfl (WL.val (run_incN rfl rfl (by omega)) rfl rfl (WL.val run_assign rfl rfl ?_)))))))
   refine WL.nil ?_
   exact ⟨k + 1, ⟨by omega, _, mkE_of ⟨rfl, rfl, rfl, trivial⟩, h⟩, by show l1.length - (k + 1) < l1.length - k; omega⟩
  refine W.exit (W.seq (W.region (WL.val run_assign rfl rfl (WL.nil (W.ret (bodyQ.r1 (v := .bool _) results44 rfl ?_))))))
  exact ⟨rfl, h⟩
theorem upendbad_ok {bu : Nat} {hh : Int} {u : Un} {pool : PoolL} {ms : List Nat} (hb : hostB hh = false) (h : On W0 (UnP 68 105 113 bu pool ms u :: L) w) : Calls Tryz.prog 45 #[.pointer (some ⟨bu, 0, none⟩), .int .i64 hh] w (Ret fun v w' => v = .slice none 0 0 ∧ On W0 (UnP 68 105 113 bu pool ms u :: L) w') := by
  refine enter func45 rfl ntmps45 rfl (W.seq (W.region (WL.val run_assign rfl rfl (WL.nil (W.seq (W.seq (W.region ?_)))))))
  refine WL.val run_move rfl rfl (WL.eff (eff_call call25 (uhost_ok h)) rfl rfl ?_)
  rintro _ w ⟨hv, h⟩
  rw [hb] at hv
  subst hv
  refine WL.val (run_not rfl) rfl rfl (WL.nil (W.condT rfl (W.seq (W.region (WL.val run_assign rfl rfl (WL.nil (W.ret ?_)))))))
  refine bodyQ.r1 (v := .slice _ _ _) results45 rfl ?_
  exact ⟨rfl, h⟩
theorem pending17_ok {bu br : Nat} {u : Un} {pool : PoolL} {pc : PoolK} {ms : List Nat} (hsm : small 999000 u) (h : On W0 (UnP 68 105 113 bu pool ms u :: RefU 89 94 137 br pc u :: PoolC pc :: L) w) : Calls Tryz.prog 15 #[.pointer (some ⟨bu, 0, none⟩), .pointer (some ⟨br, 0, none⟩)] w (Ret fun v w' => v = .bool true ∧ On W0 (UnP 68 105 113 bu pool ms u :: RefU 89 94 137 br pc u :: PoolC pc :: L) w') := by
  refine enter func15 rfl ntmps15 rfl (W.seq (W.region (WL.val run_assign rfl rfl (WL.nil (W.seq (W.seq (W.region ?_)))))))
  refine WL.val run_assign rfl rfl (WL.nil (W.block ?_))
  refine W.loop (fun (k : Nat) env w => k ≤ 8 ∧ ∃ j, env = mkE j [(0, .pointer (some ⟨bu, 0, none⟩)), (1, .pointer (some ⟨br, 0, none⟩)), (5, .int .i64 (k : Int))] ∧ On W0 (UnP 68 105 113 bu pool ms u :: RefU 89 94 137 br pc u :: PoolC pc :: L) w) (fun k => 8 - k) (0) ?_ ?_
  · exact ⟨Nat.zero_le _, _, mkE_of ⟨rfl, rfl, rfl, trivial⟩, h⟩
  rintro k env w ⟨hk, j, rfl, h⟩
  refine W.seq (W.seq (W.region (WL.val run_move rfl rfl (WL.val (run_lss rfl rfl) rfl rfl (WL.nil ?_)))))
  refine W.condIf rfl (fun c5 => ?_) (fun c5 => ?_)
  ·
   refine W.skip (W.seq ?_)
   have hk8 : k < 8 := by omega
   have hsk := hsm k hk8
   have ho := openF (h.fetch (RefU 89 94 137 br pc u))
   obtain ⟨bs, bt, xs, hpk, h⟩ := ho
   have hl8 := xs_len hpk
   have hr_ := rx_of hpk hk8
   obtain ⟨x, hx, hxs, hok⟩ := hr_
   have hxc : x.codes = (u.guest k).codes := congrArg Gs.codes hxs
   have hgw := rget_w (bs := bs) (bt := bt) hl8 hx
   have hwc := hok.1
   rw [hxc] at hwc
   have fW := (h.readsTo (T := [PoolC pc]) (Gives.poolC hwc)).form
   obtain ⟨aw, cw, hwv, _⟩ := fW
   rw [hwv] at hgw hwc
   refine W.block (W.seq ?_)
   refine W.draw Tryz.follows h (fun w h => ?_)
   refine WT.pure 0 rfl (by kernel_rfl) (fun w' => run_move) rfl rfl (WT.pure 1 rfl (by kernel_rfl) (fun w' => run_move) rfl rfl (WT.pure 3 rfl (by kernel_rfl) (fun w' => run_move) rfl rfl (WT.pure 4 rfl (by kernel_rfl) (fun w' => run_move) rfl rfl (WT.pure 5 rfl (by kernel_rfl) (fun w' => (run_nilCheck rfl)) rfl rfl (WT.pure 6 rfl (by kernel_rfl) (fun w' => (run_fieldAddr 2 underlying89 rfl sizeOf84 rfl rfl)) rfl rfl (WT.pure 7 rfl (by kernel_rfl) (fun w' => (run_indexAddrArr underlying84 sizeOf62 rfl rfl (by omega) (by omega))) rfl rfl (WT.load1 8 rfl (by kernel_rfl) isAgg62 rfl (h.cellB hgw) rfl rfl ?_)))))))
   refine WT.eff 2 [true] rfl (by kernel_rfl) (by kernel_rfl) (eff_call call45 (upending_ok (u := u) (i := k) hk8 (by omega) (h.fetch (UnP 68 105 113 bu pool ms u)))) rfl rfl ?_
   rintro _ w ⟨a12, rfl, h⟩
   refine ⟨⟨h.cellB hgw, trivial⟩, ?_⟩
   refine WT.eff 9 [false] rfl (by kernel_rfl) (by kernel_rfl) (eff_call call44 (ints17_ok (l1 := (u.guest k).codes) h (Gives.ownO (v := .slice a12 (u.guest k).codes.length (u.guest k).codes.length)) (Gives.to (T := [PoolC pc]) (Gives.poolC hwc)))) rfl rfl ?_
   rintro _ w ⟨rfl, h⟩
   refine ⟨trivial, ?_⟩
   refine WT.pure 10 rfl (by kernel_rfl) (fun w' => (run_not rfl)) rfl rfl (WT.done (by kernel_rfl) (W.condF rfl (W.skip (W.region (WL.val run_move rfl rfl (WL.val (run_incN rfl rfl (by omega)) rfl rfl (WL.val run_assign rfl rfl ?_)))))))
   refine WL.nil ?_
   have h := closeF (bu := br) (u := u) hpk ((((h.fetch (PoolC pc)).fetch (blk bt u.t.cells 137)).fetch (RSpP 94 bs pc u.s)).fetch (blk br (rcells bs bt xs) 89))
   exact ⟨k + 1, ⟨by omega, _, mkE_of ⟨rfl, rfl, rfl, trivial⟩, h.to⟩, by show 8 - (k + 1) < 8 - k; omega⟩
  refine W.exit (W.seq (W.region (WL.val run_move rfl rfl (WL.eff (eff_call call45 (upendbad_ok (hh := -1) (u := u) (by decide) (h.fetch (UnP 68 105 113 bu pool ms u)))) rfl rfl ?_))))
  rintro _ w ⟨rfl, h⟩
  refine WL.val (run_lenSlice underlying62 rfl) rfl rfl (WL.val (run_eqlT rfl rfl (rfl)) rfl rfl (WL.val run_move rfl rfl (WL.val run_move rfl rfl (WL.eff (eff_call call45 (upendbad_ok (hh := 8) (u := u) (by decide) (h.fetch (UnP 68 105 113 bu pool ms u)))) rfl rfl ?_))))
  rintro _ w ⟨rfl, h⟩
  refine WL.val (run_lenSlice underlying62 rfl) rfl rfl (WL.val (run_eqlT rfl rfl (rfl)) rfl rfl (WL.val (run_pickT rfl) rfl rfl (WL.val run_assign rfl rfl (WL.nil (W.ret (bodyQ.r1 (v := .bool _) results15 rfl ?_))))))
  exact ⟨rfl, h.to⟩
end Go.Proofs.YtjbgiingimhnnaaGreat
/-
  The document's unit: the law of twins: the contracts. Lines of walks printed by a program of the prover's.
-/
namespace Go.Proofs.YtjbgiingimhnnaaGreat
open Go.Proofs.Tryz
open Go Go.Sl Go.Sl.BitM Go.Sl.SpM Go.Sl.RsM Go.Sl.ByM Go.Sl.UnM
set_option linter.unusedVariables false
set_option linter.unusedSimpArgs false
set_option maxHeartbeats 1000000
set_option maxRecDepth 8000
variable {W0 w : World} {L F : List HProp}
theorem few17_ok {al : Option Addr} {cl : Nat} {l : List A17} (h : On W0 F w) (C : Gives F (Cells 13 (.slice al l.length cl) l.length (l.flatMap A17.cells))) : Calls Tryz.prog 6 #[.slice al l.length cl] w (Ret fun v w' => ∃ t : Bool, v = .bool t ∧ (t = true → l.length ≤ 60 ∧ ∀ a ∈ l, a.c.bs.length ≤ 600) ∧ On W0 F w') := by
  refine enter func6 rfl ntmps6 rfl ?_
  have hbd := (h.reads C).bounds
  obtain ⟨hc1, hc2⟩ := hbd
  have hmx := maxLen_eq
  refine W.seq (W.region (WL.val run_assign rfl rfl (WL.nil (W.seq (W.seq (W.region (WL.val run_move rfl rfl ?_)))))))
  refine WL.val (run_lenSlice underlying30 rfl) rfl rfl (WL.val (run_gtr rfl rfl) rfl rfl (WL.nil ?_))
  refine W.condIf rfl (fun c2 => ?_) (fun c2 => ?_)
  ·
   refine W.seq (W.region (WL.val run_assign rfl rfl (WL.nil (W.ret (bodyQ.r1 (v := .bool _) results6 rfl ?_)))))
   exact ⟨false, rfl, fun e => (by cases e), h⟩
  refine W.skip (W.seq (W.seq (W.region (WL.val run_assign rfl rfl (WL.nil (W.block ?_))))))
  refine W.loop (fun (k : Nat) env w => ∃ j, env = mkE j [(0, .slice al l.length cl), (3, .int .i64 (k : Int))] ∧ k ≤ l.length ∧ (∀ (i : Nat) a, i < k → l[i]? = some a → a.c.bs.length ≤ 600) ∧ On W0 F w) (fun k => l.length - k) (0) ?_ ?_
  · exact ⟨_, mkE_of ⟨rfl, rfl, trivial⟩, Nat.zero_le _, by intro i a hi; omega, h⟩
  rintro k env w ⟨j, rfl, hk, hno, h⟩
  refine W.seq (W.seq (W.region (WL.val run_move rfl rfl (WL.val run_move rfl rfl (WL.val (run_lenSlice underlying30 rfl) rfl rfl (WL.val (run_lss rfl rfl) rfl rfl (WL.nil ?_)))))))
  refine W.condIf rfl (fun c10 => ?_) (fun c10 => ?_)
  ·
   refine W.skip (W.seq (W.block (W.seq ?_)))
   have hkl : k < l.length := by omega
   have ad_ := (h.readsTo C).addr (by omega)
   obtain ⟨bq, oq, hal⟩ := ad_
   subst hal
   have ex_ : ∃ a, l[k]? = some a := ⟨l[k], by simp⟩
   obtain ⟨⟨ah, ⟨ck, cat, cn, cax, cac, cbs, cky, cnw, cty, cfo⟩, ao, aid, afl, aco⟩, hq⟩ := ex_
   have hrow := drop_flatMap A17.cells 13 A17.cells_length l _ _ hq
   refine W.region (WL.val run_move rfl rfl (WL.val run_move rfl rfl (WL.val (run_indexAddr underlying30 sizeOf27 rfl rfl (by omega) (by omega)) rfl rfl (WL.val (run_fieldAddr 1 underlying27 rfl sizeOf25 rfl rfl) rfl rfl (WL.val (run_fieldAddr 3 underlying25 rfl sizeOf22 rfl rfl) rfl rfl (WL.val (run_load1 isAgg22 rfl (cell_at (p := 1) ((h.readsTo C).elem (i := k) (vs := [.int .i64 ah, .int .i64 ck, .int .i64 cat, .int .i64 cn, .slice cax cbs.length cac, .int .u64 cky, .int .u64 cnw, .int .i64 cty, .bool cfo, .bool ao, .int .u64 aid, .int .u64 afl, .bool aco]) (by omega) hrow) 3 rfl)) rfl rfl (WL.val (run_lenSlice underlying22 rfl) rfl rfl ?_)))))))
   refine WL.val (run_gtr rfl rfl) rfl rfl (WL.nil ?_)
   refine W.condIf rfl (fun c15 => ?_) (fun c15 => ?_)
   ·
    refine W.seq (W.region (WL.val run_assign rfl rfl (WL.nil (W.ret (bodyQ.r1 (v := .bool _) results6 rfl ?_)))))
    exact ⟨false, rfl, fun e => (by cases e), h⟩
   refine W.skip (W.region (WL.val run_move rfl rfl (WL.val (run_incN rfl rfl (by omega)) rfl rfl (WL.val run_assign rfl rfl (WL.nil ?_)))))
   exact ⟨k + 1, ⟨_, mkE_of ⟨rfl, rfl, trivial⟩, by omega, (by
     intro i a hi ha
     by_cases hik : i = k
     · subst hik; rw [hq] at ha; cases ha; show cbs.length ≤ 600; omega
     · exact hno i a (by omega) ha), h⟩, by show l.length - (k + 1) < l.length - k; omega⟩
  refine W.exit (W.seq (W.region (WL.val run_assign rfl rfl (WL.nil (W.ret (bodyQ.r1 (v := .bool _) results6 rfl ?_))))))
  exact ⟨true, rfl, fun _ => ⟨by omega, fun a ha => by
    have ex_ := List.getElem?_of_mem ha
    obtain ⟨i, hi⟩ := ex_
    exact hno i a (by have := (List.getElem?_eq_some_iff.1 hi).1; omega) hi⟩, h⟩
theorem tact_ok {bu br k : Nat} {hh id floor : Int} {once code : Bool} {u : Un} {pool : PoolL} {pc : PoolK} {ms : List Nat} {kind at_ n key new typ : Int} {force : Bool} {data : List UInt8} {ax : Option Addr} {cx : Nat} (hk : k ≤ 999000) (hu : calmU k u) (hcm : okCm (⟨kind, at_, n, data, key, new, typ, force⟩ : Cm)) (h : On W0 (UnP 68 105 113 bu pool ms u :: RefU 89 94 137 br pc u :: Pool pool :: PoolC pc :: L) w) (C : Gives L (Bytes (.slice ax data.length cx) data)) (hd : data.length ≤ 1000000) : Calls Tryz.prog 12 #[.pointer (some ⟨bu, 0, none⟩), .pointer (some ⟨br, 0, none⟩), .agg #[.int .i64 hh, .int .i64 kind, .int .i64 at_, .int .i64 n, .slice ax data.length cx, .int .u64 key, .int .u64 new, .int .i64 typ, .bool force, .bool once, .int .u64 id, .int .u64 floor, .bool code]] w (Ret fun v w' => ∃ pool' pc' ms', (∀ p ∈ pool, p ∈ pool') ∧ subK pc pc' ∧ v = .bool true ∧ On W0 (UnP 68 105 113 bu pool' ms' (actsM u once hh id floor (⟨kind, at_, n, data, key, new, typ, force⟩ : Cm)).1 :: RefU 89 94 137 br pc' (actsM u once hh id floor (⟨kind, at_, n, data, key, new, typ, force⟩ : Cm)).1 :: Pool pool' :: PoolC pc' :: L) w') := by
  have hsm : small 999000 u := small_le hu.1 hk
  cases once with
  | false => exact tdodo_ok hsm hu.2.1 hcm h C hd
  | true =>
    have hb_ := Bool.eq_false_or_eq_true (hostB hh)
    rcases hb_ with hb | hb
    · have hb2 := hostB_iff.1 hb
      have ei := Int.eq_ofNat_of_zero_le (show 0 ≤ hh by omega)
      obtain ⟨i, hi0⟩ := ei
      subst hi0
      have hi : i < 8 := by omega
      have e1 : actsM u true (i : Int) id floor (⟨kind, at_, n, data, key, new, typ, force⟩ : Cm) = onceM u i id floor (⟨kind, at_, n, data, key, new, typ, force⟩ : Cm) := by unfold actsM; rw [if_pos rfl]; exact onceH_nat hi
      rw [e1]
      exact tdoonce_ok hi rfl hsm hu.2.1 hu.2.2.1 hcm h C hd
    · have e1 : actsM u true hh id floor (⟨kind, at_, n, data, key, new, typ, force⟩ : Cm) = (u, plain 8 0 0, false) := by unfold actsM; rw [if_pos rfl]; exact onceH_bad hb
      rw [e1]
      exact (tdobad_ok hb h C hd).mono fun e w' he => by
        obtain ⟨v, he, hv, h⟩ := he
        exact ⟨v, he, pool, pc, ms, fun p hp => hp, subK_refl, hv, h⟩
theorem utwins_law {al0 al1 al2 : Option Addr} {cl0 cl1 cl2 : Nat} {l0 l1 l2 : List A17} (h : On W0 F w) (C0 : Gives F (Cells 13 (.slice al0 l0.length cl0) l0.length (l0.flatMap A17.cells))) (H0 : ∀ a ∈ l0, Gives F (Bytes (.slice a.c.ax a.c.bs.length a.c.ac) a.c.bs) ∧ okCm a.c.cm) (C1 : Gives F (Cells 13 (.slice al1 l1.length cl1) l1.length (l1.flatMap A17.cells))) (H1 : ∀ a ∈ l1, Gives F (Bytes (.slice a.c.ax a.c.bs.length a.c.ac) a.c.bs) ∧ okCm a.c.cm) (C2 : Gives F (Cells 13 (.slice al2 l2.length cl2) l2.length (l2.flatMap A17.cells))) (H2 : ∀ a ∈ l2, Gives F (Bytes (.slice a.c.ax a.c.bs.length a.c.ac) a.c.bs) ∧ okCm a.c.cm) : Calls Tryz.prog 4 #[.slice al0 l0.length cl0, .slice al1 l1.length cl1, .slice al2 l2.length cl2] w (Ret fun v w' => v = .bool true ∧ On W0 F w') := by
  refine enter func4 rfl ntmps4 rfl ?_
  have hmx := maxLen_eq
  have hbd0 := (h.reads C0).bounds
  obtain ⟨hc0a, hc0b⟩ := hbd0
  have hbd1 := (h.reads C1).bounds
  obtain ⟨hc1a, hc1b⟩ := hbd1
  have hbd2 := (h.reads C2).bounds
  obtain ⟨hc2a, hc2b⟩ := hbd2
  refine W.seq (W.region (WL.val run_assign rfl rfl (WL.nil (W.seq (W.seq (W.region (WL.eff (eff_call call5 (uknown_ok h)) rfl rfl ?_)))))))
  rintro _ w ⟨rfl, h⟩
  refine WL.val (run_not rfl) rfl rfl (WL.nil (W.condF rfl (W.skip (W.seq (W.seq (W.region (WL.val run_move rfl rfl ?_)))))))
  refine WL.eff (eff_call call6 (few17_ok h C0)) rfl rfl ?_
  rintro _ w ⟨t, rfl, hf0, h⟩
  refine WL.boolB (run_not rfl) rfl rfl (fun c19 => ?_) (fun c19 => ?_)
  ·
   refine WL.val run_move rfl rfl (WL.skip rfl rfl (WL.skip rfl rfl (WL.skip rfl rfl (WL.val (run_pickT rfl) rfl rfl (WL.val run_move rfl rfl (WL.skip rfl rfl (WL.skip rfl rfl ?_)))))))
   refine WL.skip rfl rfl (WL.val (run_pickT rfl) rfl rfl (WL.nil (W.condT rfl (W.seq (W.region (WL.val run_assign rfl rfl (WL.nil ?_)))))))
   refine W.ret (bodyQ.r1 (v := .bool _) results4 rfl ?_)
   exact ⟨rfl, h⟩
  refine WL.val run_move rfl rfl (WL.val run_move rfl rfl (WL.eff (eff_call call6 (few17_ok h C1)) rfl rfl ?_))
  rintro _ w ⟨t1, rfl, hf1, h⟩
  refine WL.boolB (run_not rfl) rfl rfl (fun c23 => ?_) (fun c23 => ?_)
  ·
   refine WL.val (run_pickF rfl) rfl rfl (WL.val run_move rfl rfl (WL.skip rfl rfl (WL.skip rfl rfl (WL.skip rfl rfl (WL.val (run_pickT rfl) rfl rfl (WL.nil (W.condT rfl ?_)))))))
   refine W.seq (W.region (WL.val run_assign rfl rfl (WL.nil (W.ret (bodyQ.r1 (v := .bool _) results4 rfl ?_)))))
   exact ⟨rfl, h⟩
  refine WL.val (run_pickF rfl) rfl rfl (WL.val run_move rfl rfl (WL.val run_move rfl rfl (WL.eff (eff_call call6 (few17_ok h C2)) rfl rfl ?_)))
  rintro _ w ⟨t2, rfl, hf2, h⟩
  refine WL.val (run_not rfl) rfl rfl (WL.val (run_pickF rfl) rfl rfl (WL.nil ?_))
  refine W.condB rfl (fun c7 => ?_) (fun c7 => ?_)
  ·
   refine W.seq (W.region (WL.val run_assign rfl rfl (WL.nil (W.ret (bodyQ.r1 (v := .bool _) results4 rfl ?_)))))
   exact ⟨rfl, h⟩
  have hf0 := hf0 (by simpa using c19)
  have hf1 := hf1 (by simpa using c23)
  have hf2 := hf2 (by simpa using c7)
  obtain ⟨h60a, h600a⟩ := hf0
  obtain ⟨h60b, h600b⟩ := hf1
  obtain ⟨h60c, h600c⟩ := hf2
  refine W.skip (W.seq (W.region (WL.eff (eff_call call10 (unew_ok (pool := []) h)) rfl rfl ?_)))
  rintro _ w hv
  rcases hv with ⟨N, hN, h1N, hN2, bu, ms, rfl, h⟩ | ⟨hno, _, _⟩
  rotate_left
  · exact absurd (by decide) hno
  have ob_ : N = 8 := by omega
  obtain rfl := ob_
  refine WL.val run_move rfl rfl (WL.val (run_extract rfl rfl) rfl rfl (WL.val (run_extract rfl rfl) rfl rfl (WL.val run_assign rfl rfl (WL.val run_assign rfl rfl (WL.nil (W.seq (W.region ?_)))))))
  refine WL.eff (eff_call call11 (runew_ok (n := 8) (pc := []) (by decide) (by decide) (On.poolC0 h))) rfl rfl ?_
  rintro _ w ⟨pc, br, _, rfl, h⟩
  refine WL.val run_move rfl rfl (WL.val (run_extract rfl rfl) rfl rfl (WL.val (run_extract rfl rfl) rfl rfl (WL.val run_assign rfl rfl (WL.val run_assign rfl rfl (WL.nil (W.seq (W.seq ?_)))))))
  refine W.region (WL.val run_assign rfl rfl (WL.nil (W.block ?_)))
  refine W.loop (fun (k : Nat) env w => k ≤ l0.length ∧ ∃ (j : Env) (u : Un) (pool : PoolL) (pc : PoolK) (ms : List Nat), calmU k u ∧ env = mkE j [(0, .slice al0 l0.length cl0), (1, .slice al1 l1.length cl1), (2, .slice al2 l2.length cl2), (7, .pointer (some ⟨bu, 0, none⟩)), (9, .pointer (some ⟨br, 0, none⟩)), (11, .int .i64 (k : Int))] ∧ On W0 (UnP 68 105 113 bu pool ms u :: RefU 89 94 137 br pc u :: Pool pool :: PoolC pc :: F) w) (fun k => l0.length - k) (0) ?_ ?_
  · have h := h.pool0
    exact ⟨Nat.zero_le _, _, newU 8, [], pc, ms, calmU_new 8, mkE_of ⟨rfl, rfl, rfl, rfl, rfl, rfl, trivial⟩, h.to⟩
  clear h
  rintro k env w ⟨hk, j, u, pool, pc, ms, hu, rfl, h⟩
  refine W.seq (W.seq (W.region (WL.val run_move rfl rfl (WL.val run_move rfl rfl (WL.val (run_lenSlice underlying30 rfl) rfl rfl (WL.val (run_lss rfl rfl) rfl rfl (WL.nil ?_)))))))
  refine W.condIf rfl (fun c17 => ?_) (fun c17 => ?_)
  ·
   refine W.skip (W.seq (W.block (W.seq ?_)))
   have hkl : k < l0.length := by omega
   have ad_ := (h.readsTo C0).addr (by omega)
   obtain ⟨bq, oq, hal⟩ := ad_
   subst hal
   have ex_ : ∃ a, l0[k]? = some a := ⟨l0[k]'(by omega), by simp⟩
   obtain ⟨⟨ah, ⟨ck, cat, cn, cax, cac, cbs, cky, cnw, cty, cfo⟩, ao, aid, afl, aco⟩, hq⟩ := ex_
   have hrow := drop_flatMap A17.cells 13 A17.cells_length l0 _ _ hq
   have hbx : Gives F (Bytes (.slice cax cbs.length cac) cbs) := (H0 _ (List.mem_of_getElem? hq)).1
   have hcx : okCm (⟨ck, cat, cn, cbs, cky, cnw, cty, cfo⟩ : Cm) := (H0 _ (List.mem_of_getElem? hq)).2
   have hb6 : cbs.length ≤ 600 := h600a _ (List.mem_of_getElem? hq)
   refine W.region (WL.val run_move rfl rfl (WL.val run_move rfl rfl (WL.val run_move rfl rfl (WL.val run_move rfl rfl (WL.val (run_indexAddr underlying30 sizeOf27 rfl rfl (by omega) (by omega)) rfl rfl (WL.val (run_loadN isAgg27 sizeOf27 rfl rfl ((h.readsTo C0).elem (i := k) (vs := [.int .i64 ah, .int .i64 ck, .int .i64 cat, .int .i64 cn, .slice cax cbs.length cac, .int .u64 cky, .int .u64 cnw, .int .i64 cty, .bool cfo, .bool ao, .int .u64 aid, .int .u64 afl, .bool aco]) (by omega) hrow)) rfl rfl ?_))))))
   refine WL.eff (eff_call call12 (tact_ok (bu := bu) (br := br) (k := k) (u := u) (pool := pool) (pc := pc) (ms := ms) (hh := ah) (id := aid) (floor := afl) (once := ao) (code := aco) (kind := ck) (at_ := cat) (n := cn) (data := cbs) (key := cky) (new := cnw) (typ := cty) (force := cfo) (by omega) hu hcx ((((h.fetch (PoolC pc)).fetch (Pool pool)).fetch (RefU 89 94 137 br pc u)).fetch (UnP 68 105 113 bu pool ms u)) (Gives.to hbx) (by omega))) rfl rfl ?_
   rintro _ w ⟨pool2, pc2, ms2, hsp, hsc, rfl, h⟩
   refine WL.val (run_not rfl) rfl rfl (WL.nil (W.condF rfl (W.skip (W.region (WL.val run_move rfl rfl (WL.val (run_incN rfl rfl (by omega)) rfl rfl (WL.val run_assign rfl rfl ?_)))))))
   refine WL.nil ?_
   exact ⟨k + 1, ⟨by omega, _, (actsM u ao ah aid afl (⟨ck, cat, cn, cbs, cky, cnw, cty, cfo⟩ : Cm)).1, pool2, pc2, ms2, calmU_acts hu hcx, mkE_of ⟨rfl, rfl, rfl, rfl, rfl, rfl, trivial⟩, h.to⟩, by show l0.length - (k + 1) < l0.length - k; omega⟩
  refine W.exit (W.seq (W.region (WL.val run_move rfl rfl (WL.eff (eff_call call13 (utwin_ok (u := u) (pool := pool) (ms := ms) (small_le hu.1 (by omega)) (h.fetch (UnP 68 105 113 bu pool ms u)))) rfl rfl ?_))))
  rintro _ w ⟨bv, ms2, rfl, h⟩
  refine WL.val run_assign rfl rfl (WL.nil (W.seq (W.region (WL.val run_move rfl rfl (WL.eff (eff_call call14 (utwinR_ok (bu := br) (u := u) (pc := pc) ((h.fetch (PoolC pc)).fetch (RefU 89 94 137 br pc u)))) rfl rfl ?_)))))
  rintro _ w ⟨bs, rfl, h⟩
  refine WL.val run_assign rfl rfl (WL.nil (W.seq (W.seq (W.region (WL.val run_move rfl rfl (WL.val (run_eqlPtrNil underlying31 rfl rfl) rfl rfl (WL.nil ?_)))))))
  refine W.condF rfl (W.skip (W.seq (W.seq (W.region (WL.val run_assign rfl rfl (WL.nil (W.block ?_)))))))
  refine W.loop (fun (k : Nat) env w => k ≤ 60 ∧ ∃ (j : Env) (u x : Un) (pool : PoolL) (pc : PoolK) (ms ms2 : List Nat), calmU (60 + k) u ∧ calmU (60 + k) x ∧ env = mkE j [(0, .slice al0 l0.length cl0), (1, .slice al1 l1.length cl1), (2, .slice al2 l2.length cl2), (7, .pointer (some ⟨bu, 0, none⟩)), (9, .pointer (some ⟨br, 0, none⟩)), (12, .pointer (some ⟨bv, 0, none⟩)), (13, .pointer (some ⟨bs, 0, none⟩)), (14, .int .i64 (k : Int))] ∧ On W0 (UnP 68 105 113 bu pool ms u :: RefU 89 94 137 br pc u :: UnP 68 105 113 bv pool ms2 x :: RefU 89 94 137 bs pc x :: Pool pool :: PoolC pc :: F) w) (fun k => 60 - k) (0) ?_ ?_
  · have hu6 : calmU (60 + 0) u := ⟨small_le hu.1 (by omega), hu.2⟩
    exact ⟨Nat.zero_le _, _, u, u, pool, pc, ms, ms2, hu6, hu6, mkE_of ⟨rfl, rfl, rfl, rfl, rfl, rfl, rfl, rfl, trivial⟩, h.to⟩
  clear h
  rintro k env w ⟨hk6, j, u, x, pool, pc, ms, ms2, hu, hx, rfl, h⟩
  refine W.cut (fun env w => (k < l1.length ∨ k < l2.length) ∧ ∃ (j : Env), env = mkE j [(0, .slice al0 l0.length cl0), (1, .slice al1 l1.length cl1), (2, .slice al2 l2.length cl2), (7, .pointer (some ⟨bu, 0, none⟩)), (9, .pointer (some ⟨br, 0, none⟩)), (12, .pointer (some ⟨bv, 0, none⟩)), (13, .pointer (some ⟨bs, 0, none⟩)), (14, .int .i64 (k : Int))] ∧ On W0 (UnP 68 105 113 bu pool ms u :: RefU 89 94 137 br pc u :: UnP 68 105 113 bv pool ms2 x :: RefU 89 94 137 bs pc x :: Pool pool :: PoolC pc :: F) w) ?_ ?_
  ·
   refine W.seq (W.region (WL.val run_move rfl rfl (WL.val run_move rfl rfl (WL.val (run_lenSlice underlying30 rfl) rfl rfl ?_))))
   refine WL.dec (run_lss rfl rfl) rfl rfl (fun c61 => ?_) (fun c61 => ?_)
   ·
    have hkl : k < l1.length := by omega
    have ad_ := (h.readsTo C1).addr (by omega)
    obtain ⟨bq, oq, hal⟩ := ad_
    subst hal
    have ex_ : ∃ a, l1[k]? = some a := ⟨l1[k]'(by omega), by simp⟩
    obtain ⟨⟨ah, ⟨ck, cat, cn, cax, cac, cbs, cky, cnw, cty, cfo⟩, ao, aid, afl, aco⟩, hq⟩ := ex_
    have hrow := drop_flatMap A17.cells 13 A17.cells_length l1 _ _ hq
    have hbx : Gives F (Bytes (.slice cax cbs.length cac) cbs) := (H1 _ (List.mem_of_getElem? hq)).1
    have hcx : okCm (⟨ck, cat, cn, cbs, cky, cnw, cty, cfo⟩ : Cm) := (H1 _ (List.mem_of_getElem? hq)).2
    have hb6 : cbs.length ≤ 600 := h600b _ (List.mem_of_getElem? hq)
    refine WL.val run_move rfl rfl (WL.skip rfl rfl (WL.skip rfl rfl (WL.skip rfl rfl (WL.skip rfl rfl (WL.val (run_pickT rfl) rfl rfl (WL.nil (W.condT rfl ?_)))))))
    refine W.skip ?_
    exact ⟨by omega, _, mkE_of ⟨rfl, rfl, rfl, rfl, rfl, rfl, rfl, rfl, trivial⟩, h⟩
   refine WL.val run_move rfl rfl (WL.val run_move rfl rfl (WL.val run_move rfl rfl (WL.val (run_lenSlice underlying30 rfl) rfl rfl (WL.val (run_lss rfl rfl) rfl rfl (WL.val (run_pickF rfl) rfl rfl (WL.nil ?_))))))
   refine W.condIf rfl (fun c38 => ?_) (fun c38 => ?_)
   ·
    have hklz : k < l2.length := by omega
    have ad_z := (h.readsTo C2).addr (by omega)
    obtain ⟨bqz, oqz, halz⟩ := ad_z
    subst halz
    have ex_z : ∃ a, l2[k]? = some a := ⟨l2[k]'(by omega), by simp⟩
    obtain ⟨⟨ahz, ⟨ckz, catz, cnz, caxz, cacz, cbsz, ckyz, cnwz, ctyz, cfoz⟩, aoz, aidz, aflz, acoz⟩, hqz⟩ := ex_z
    have hrowz := drop_flatMap A17.cells 13 A17.cells_length l2 _ _ hqz
    have hbxz : Gives F (Bytes (.slice caxz cbsz.length cacz) cbsz) := (H2 _ (List.mem_of_getElem? hqz)).1
    have hcxz : okCm (⟨ckz, catz, cnz, cbsz, ckyz, cnwz, ctyz, cfoz⟩ : Cm) := (H2 _ (List.mem_of_getElem? hqz)).2
    have hb6z : cbsz.length ≤ 600 := h600c _ (List.mem_of_getElem? hqz)
    refine W.skip ?_
    exact ⟨by omega, _, mkE_of ⟨rfl, rfl, rfl, rfl, rfl, rfl, rfl, rfl, trivial⟩, h⟩
   refine W.exit (W.seq (W.region (WL.val run_move rfl rfl (WL.val run_move rfl rfl (WL.eff (eff_call call15 (pending17_ok (u := u) (pool := pool) (pc := pc) (ms := ms) (small_le hu.1 (by omega)) (((h.fetch (PoolC pc)).fetch (RefU 89 94 137 br pc u)).fetch (UnP 68 105 113 bu pool ms u)))) rfl rfl ?_)))))
   rintro _ w ⟨rfl, h⟩
   refine WL.val run_move rfl rfl (WL.val run_move rfl rfl (WL.val run_move rfl rfl (WL.eff (eff_call call15 (pending17_ok (bu := bv) (br := bs) (u := x) (pool := pool) (pc := pc) (ms := ms2) (small_le hx.1 (by omega)) (((h.fetch (PoolC pc)).fetch (RefU 89 94 137 bs pc x)).fetch (UnP 68 105 113 bv pool ms2 x)))) rfl rfl ?_)))
   rintro _ w ⟨rfl, h⟩
   refine WL.val (run_pickT rfl) rfl rfl (WL.val run_assign rfl rfl (WL.nil (W.ret (bodyQ.r1 (v := .bool _) results4 rfl ?_))))
   exact ⟨rfl, h.to⟩
  clear h
  rintro env w ⟨hlt, j, rfl, h⟩
  have hk60 : k < 60 := by omega
  refine W.seq (W.block (W.seq (W.region (WL.val run_move rfl rfl (WL.val run_move rfl rfl (WL.val (run_lenSlice underlying30 rfl) rfl rfl ?_))))))
  refine WL.dec (run_lss rfl rfl) rfl rfl (fun c73 => ?_) (fun c73 => ?_)
  ·
   have hkl : k < l1.length := by omega
   have ad_ := (h.readsTo C1).addr (by omega)
   obtain ⟨bq, oq, hal⟩ := ad_
   subst hal
   have ex_ : ∃ a, l1[k]? = some a := ⟨l1[k]'(by omega), by simp⟩
   obtain ⟨⟨ah, ⟨ck, cat, cn, cax, cac, cbs, cky, cnw, cty, cfo⟩, ao, aid, afl, aco⟩, hq⟩ := ex_
   have hrow := drop_flatMap A17.cells 13 A17.cells_length l1 _ _ hq
   have hbx : Gives F (Bytes (.slice cax cbs.length cac) cbs) := (H1 _ (List.mem_of_getElem? hq)).1
   have hcx : okCm (⟨ck, cat, cn, cbs, cky, cnw, cty, cfo⟩ : Cm) := (H1 _ (List.mem_of_getElem? hq)).2
   have hb6 : cbs.length ≤ 600 := h600b _ (List.mem_of_getElem? hq)
   refine WL.val run_move rfl rfl (WL.val run_move rfl rfl (WL.val run_move rfl rfl (WL.val run_move rfl rfl (WL.val run_move rfl rfl (WL.val (run_indexAddr underlying30 sizeOf27 rfl rfl (by omega) (by omega)) rfl rfl (WL.val (run_loadN isAgg27 sizeOf27 rfl rfl ((h.readsTo C1).elem (i := k) (vs := [.int .i64 ah, .int .i64 ck, .int .i64 cat, .int .i64 cn, .slice cax cbs.length cac, .int .u64 cky, .int .u64 cnw, .int .i64 cty, .bool cfo, .bool ao, .int .u64 aid, .int .u64 afl, .bool aco]) (by omega) hrow)) rfl rfl ?_))))))
   refine WL.eff (eff_call call12 (tact_ok (bu := bv) (br := bs) (k := 60 + k) (u := x) (pool := pool) (pc := pc) (ms := ms2) (hh := ah) (id := aid) (floor := afl) (once := ao) (code := aco) (kind := ck) (at_ := cat) (n := cn) (data := cbs) (key := cky) (new := cnw) (typ := cty) (force := cfo) (by omega) hx hcx ((((h.fetch (PoolC pc)).fetch (Pool pool)).fetch (RefU 89 94 137 bs pc x)).fetch (UnP 68 105 113 bv pool ms2 x)) (Gives.to hbx) (by omega))) rfl rfl ?_
   rintro _ w ⟨pool2, pc2, ms3, hsp, hsc, rfl, h⟩
   have h := UnP_sub (pool' := pool2) hsp (h.fetch (UnP 68 105 113 bu pool ms u))
   have h := RefU_more (pc' := pc2) hsc (h.fetch (RefU 89 94 137 br pc u))
   refine WL.val (run_not rfl) rfl rfl (WL.val (run_pickT rfl) rfl rfl (WL.val run_move rfl rfl (WL.val run_move rfl rfl (WL.val run_move rfl rfl (WL.val (run_lenSlice underlying30 rfl) rfl rfl ?_)))))
   refine WL.dec (run_lss rfl rfl) rfl rfl (fun c88 => ?_) (fun c88 => ?_)
   ·
    have hklz : k < l2.length := by omega
    have ad_z := (h.readsTo C2).addr (by omega)
    obtain ⟨bqz, oqz, halz⟩ := ad_z
    subst halz
    have ex_z : ∃ a, l2[k]? = some a := ⟨l2[k]'(by omega), by simp⟩
    obtain ⟨⟨ahz, ⟨ckz, catz, cnz, caxz, cacz, cbsz, ckyz, cnwz, ctyz, cfoz⟩, aoz, aidz, aflz, acoz⟩, hqz⟩ := ex_z
    have hrowz := drop_flatMap A17.cells 13 A17.cells_length l2 _ _ hqz
    have hbxz : Gives F (Bytes (.slice caxz cbsz.length cacz) cbsz) := (H2 _ (List.mem_of_getElem? hqz)).1
    have hcxz : okCm (⟨ckz, catz, cnz, cbsz, ckyz, cnwz, ctyz, cfoz⟩ : Cm) := (H2 _ (List.mem_of_getElem? hqz)).2
    have hb6z : cbsz.length ≤ 600 := h600c _ (List.mem_of_getElem? hqz)
    refine WL.val run_move rfl rfl (WL.val run_move rfl rfl (WL.val run_move rfl rfl (WL.val run_move rfl rfl (WL.val run_move rfl rfl (WL.val (run_indexAddr underlying30 sizeOf27 rfl rfl (by omega) (by omega)) rfl rfl (WL.val (run_loadN isAgg27 sizeOf27 rfl rfl ((h.readsTo C2).elem (i := k) (vs := [.int .i64 ahz, .int .i64 ckz, .int .i64 catz, .int .i64 cnz, .slice caxz cbsz.length cacz, .int .u64 ckyz, .int .u64 cnwz, .int .i64 ctyz, .bool cfoz, .bool aoz, .int .u64 aidz, .int .u64 aflz, .bool acoz]) (by omega) hrowz)) rfl rfl ?_))))))
    refine WL.eff (eff_call call12 (tact_ok (bu := bu) (br := br) (k := 60 + k) (u := u) (pool := pool2) (pc := pc2) (ms := ms) (hh := ahz) (id := aidz) (floor := aflz) (once := aoz) (code := acoz) (kind := ckz) (at_ := catz) (n := cnz) (data := cbsz) (key := ckyz) (new := cnwz) (typ := ctyz) (force := cfoz) (by omega) hu hcxz ((((h.fetch (PoolC pc2)).fetch (Pool pool2)).fetch (RefU 89 94 137 br pc2 u)).fetch (UnP 68 105 113 bu pool2 ms u)) (Gives.to hbxz) (by omega))) rfl rfl ?_
    rintro _ w ⟨pool3, pc3, ms4, hspz, hscz, rfl, h⟩
    have h := UnP_sub (pool' := pool3) hspz (h.fetch (UnP 68 105 113 bv pool2 ms3 (actsM x ao ah aid afl (⟨ck, cat, cn, cbs, cky, cnw, cty, cfo⟩ : Cm)).1))
    have h := RefU_more (pc' := pc3) hscz (h.fetch (RefU 89 94 137 bs pc2 (actsM x ao ah aid afl (⟨ck, cat, cn, cbs, cky, cnw, cty, cfo⟩ : Cm)).1))
    refine WL.val (run_not rfl) rfl rfl (WL.val (run_pickT rfl) rfl rfl (WL.val (run_pickF rfl) rfl rfl (WL.nil (W.condF rfl (W.skip (W.region (WL.val run_move rfl rfl ?_)))))))
    refine WL.val (run_incN rfl rfl (by omega)) rfl rfl (WL.val run_assign rfl rfl (WL.nil ?_))
    exact ⟨k + 1, ⟨by omega, _, (actsM u aoz ahz aidz aflz (⟨ckz, catz, cnz, cbsz, ckyz, cnwz, ctyz, cfoz⟩ : Cm)).1, (actsM x ao ah aid afl (⟨ck, cat, cn, cbs, cky, cnw, cty, cfo⟩ : Cm)).1, pool3, pc3, ms4, ms3, calmU_acts hu hcxz, calmU_acts hx hcx, mkE_of ⟨rfl, rfl, rfl, rfl, rfl, rfl, rfl, rfl, trivial⟩, h.to⟩, by show 60 - (k + 1) < 60 - k; omega⟩
   refine WL.val run_move rfl rfl (WL.skip rfl rfl (WL.skip rfl rfl (WL.skip rfl rfl (WL.skip rfl rfl (WL.skip rfl rfl (WL.skip rfl rfl (WL.skip rfl rfl ?_)))))))
   refine WL.skip rfl rfl (WL.val (run_pickF rfl) rfl rfl (WL.val (run_pickF rfl) rfl rfl (WL.nil (W.condF rfl (W.skip (W.region (WL.val run_move rfl rfl ?_)))))))
   refine WL.val (run_incN rfl rfl (by omega)) rfl rfl (WL.val run_assign rfl rfl (WL.nil ?_))
   exact ⟨k + 1, ⟨by omega, _, u, (actsM x ao ah aid afl (⟨ck, cat, cn, cbs, cky, cnw, cty, cfo⟩ : Cm)).1, pool2, pc2, ms, ms3, ⟨small_le hu.1 (by omega), hu.2⟩, calmU_acts hx hcx, mkE_of ⟨rfl, rfl, rfl, rfl, rfl, rfl, rfl, rfl, trivial⟩, h.to⟩, by show 60 - (k + 1) < 60 - k; omega⟩
  refine WL.val run_move rfl rfl (WL.skip rfl rfl (WL.skip rfl rfl (WL.skip rfl rfl (WL.skip rfl rfl (WL.skip rfl rfl (WL.skip rfl rfl (WL.skip rfl rfl ?_)))))))
  refine WL.skip rfl rfl (WL.val (run_pickF rfl) rfl rfl (WL.val run_move rfl rfl (WL.val run_move rfl rfl (WL.val run_move rfl rfl (WL.val (run_lenSlice underlying30 rfl) rfl rfl ?_)))))
  refine WL.dec (run_lss rfl rfl) rfl rfl (fun c88 => ?_) (fun c88 => ?_)
  ·
   have hklz : k < l2.length := by omega
   have ad_z := (h.readsTo C2).addr (by omega)
   obtain ⟨bqz, oqz, halz⟩ := ad_z
   subst halz
   have ex_z : ∃ a, l2[k]? = some a := ⟨l2[k]'(by omega), by simp⟩
   obtain ⟨⟨ahz, ⟨ckz, catz, cnz, caxz, cacz, cbsz, ckyz, cnwz, ctyz, cfoz⟩, aoz, aidz, aflz, acoz⟩, hqz⟩ := ex_z
   have hrowz := drop_flatMap A17.cells 13 A17.cells_length l2 _ _ hqz
   have hbxz : Gives F (Bytes (.slice caxz cbsz.length cacz) cbsz) := (H2 _ (List.mem_of_getElem? hqz)).1
   have hcxz : okCm (⟨ckz, catz, cnz, cbsz, ckyz, cnwz, ctyz, cfoz⟩ : Cm) := (H2 _ (List.mem_of_getElem? hqz)).2
   have hb6z : cbsz.length ≤ 600 := h600c _ (List.mem_of_getElem? hqz)
   refine WL.val run_move rfl rfl (WL.val run_move rfl rfl (WL.val run_move rfl rfl (WL.val run_move rfl rfl (WL.val run_move rfl rfl (WL.val (run_indexAddr underlying30 sizeOf27 rfl rfl (by omega) (by omega)) rfl rfl (WL.val (run_loadN isAgg27 sizeOf27 rfl rfl ((h.readsTo C2).elem (i := k) (vs := [.int .i64 ahz, .int .i64 ckz, .int .i64 catz, .int .i64 cnz, .slice caxz cbsz.length cacz, .int .u64 ckyz, .int .u64 cnwz, .int .i64 ctyz, .bool cfoz, .bool aoz, .int .u64 aidz, .int .u64 aflz, .bool acoz]) (by omega) hrowz)) rfl rfl ?_))))))
   refine WL.eff (eff_call call12 (tact_ok (bu := bu) (br := br) (k := 60 + k) (u := u) (pool := pool) (pc := pc) (ms := ms) (hh := ahz) (id := aidz) (floor := aflz) (once := aoz) (code := acoz) (kind := ckz) (at_ := catz) (n := cnz) (data := cbsz) (key := ckyz) (new := cnwz) (typ := ctyz) (force := cfoz) (by omega) hu hcxz ((((h.fetch (PoolC pc)).fetch (Pool pool)).fetch (RefU 89 94 137 br pc u)).fetch (UnP 68 105 113 bu pool ms u)) (Gives.to hbxz) (by omega))) rfl rfl ?_
   rintro _ w ⟨pool3, pc3, ms4, hspz, hscz, rfl, h⟩
   have h := UnP_sub (pool' := pool3) hspz (h.fetch (UnP 68 105 113 bv pool ms2 x))
   have h := RefU_more (pc' := pc3) hscz (h.fetch (RefU 89 94 137 bs pc x))
   refine WL.val (run_not rfl) rfl rfl (WL.val (run_pickT rfl) rfl rfl (WL.val (run_pickF rfl) rfl rfl (WL.nil (W.condF rfl (W.skip (W.region (WL.val run_move rfl rfl ?_)))))))
   refine WL.val (run_incN rfl rfl (by omega)) rfl rfl (WL.val run_assign rfl rfl (WL.nil ?_))
   exact ⟨k + 1, ⟨by omega, _, (actsM u aoz ahz aidz aflz (⟨ckz, catz, cnz, cbsz, ckyz, cnwz, ctyz, cfoz⟩ : Cm)).1, x, pool3, pc3, ms4, ms2, calmU_acts hu hcxz, ⟨small_le hx.1 (by omega), hx.2⟩, mkE_of ⟨rfl, rfl, rfl, rfl, rfl, rfl, rfl, rfl, trivial⟩, h.to⟩, by show 60 - (k + 1) < 60 - k; omega⟩
  refine WL.val run_move rfl rfl (WL.skip rfl rfl (WL.skip rfl rfl (WL.skip rfl rfl (WL.skip rfl rfl (WL.skip rfl rfl (WL.skip rfl rfl (WL.skip rfl rfl ?_)))))))
  refine WL.skip rfl rfl (WL.val (run_pickF rfl) rfl rfl (WL.val (run_pickF rfl) rfl rfl (WL.nil (W.condF rfl (W.skip (W.region (WL.val run_move rfl rfl ?_)))))))
  refine WL.val (run_incN rfl rfl (by omega)) rfl rfl (WL.val run_assign rfl rfl (WL.nil ?_))
  exact absurd hlt (by omega)
end Go.Proofs.YtjbgiingimhnnaaGreat
