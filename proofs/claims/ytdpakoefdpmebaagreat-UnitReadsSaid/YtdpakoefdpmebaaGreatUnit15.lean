/-
  A unit: blocks read: the contracts. Lines of walks printed by a program of the prover's.
-/
import Derived.Test.YtdpakoefdpmebaaGreatUnit14
namespace Go.Proofs.YtdpakoefdpmebaaGreat
open Go Go.Sl Go.Sl.BitM Go.Sl.SpM Go.Sl.RsM Go.Sl.ByM Go.Sl.UnM
set_option linter.unusedVariables false
set_option linter.unusedSimpArgs false
set_option maxHeartbeats 1000000
set_option maxRecDepth 8000
variable {W0 w : World} {L F : List HProp}

theorem sdecode_ok [tF : To L F] {cb : Nat} {ab : Option Addr} {b : List UInt8} (hb : b.length ≤ 100000) (h : On W0 L w) (C : Gives F (Bytes (.slice ab b.length cb) b)) : Calls Tryz.prog 29 #[.slice ab b.length cb] w (Ret fun v w' => (∃ s bs, decS b = some s ∧ capS s ∧ v = .tuple #[.pointer (some ⟨bs, 0, none⟩), .int .i64 0] ∧ On W0 (SpP 146 bs s :: L) w') ∨ (decS b = none ∧ v = .tuple #[.pointer none, .int .i64 2] ∧ On W0 L w')) := by
  refine enter Tryz.func29 rfl Tryz.ntmps29 rfl ?_
  have hmx := maxLen_eq
  have hnl := nB_lt b
  have ob_ := Cells.bounds (h.readsTo C)
  obtain ⟨hbc, hbm⟩ := ob_
  refine W.seq ?_
  refine W.region ?_
  refine WL.val run_assign rfl rfl ?_
  refine WL.val run_assign rfl rfl ?_
  refine WL.nil ?_
  refine W.seq ?_
  refine W.region ?_
  refine WL.val run_move rfl rfl ?_
  refine WL.eff (eff_call Tryz.call80 (bget_ok (at_ := ((0 : Nat) : Int)) (n := ((2 : Nat) : Int)) (bs := b) h (Gives.to C))) rfl rfl ?_
  rintro v13 w hg
  have hg2 : ∃ okk : Bool, v13 = .tuple #[.int .u64 ((nB b : Nat) : Int), .bool okk] ∧ On W0 L w := by
    rcases hg with ⟨hok, hv, h⟩ | ⟨hno, hv, h⟩
    · have e : nB b = beV ((b.drop ((0 : Nat) : Int).toNat).take ((2 : Nat) : Int).toNat) := by unfold nB; rw [if_pos (by omega)]; simp
      exact ⟨true, by rw [hv, e], h⟩
    · have e : nB b = 0 := by unfold nB; rw [if_neg (by omega)]
      exact ⟨false, by rw [hv, e]; rfl, h⟩
  obtain ⟨okk, hv13, h⟩ := hg2
  subst hv13
  refine WL.val run_move rfl rfl ?_
  refine WL.val (run_extract rfl rfl) rfl rfl ?_
  refine WL.val (run_extract rfl rfl) rfl rfl ?_
  refine WL.val run_assign rfl rfl ?_
  refine WL.val run_assign rfl rfl ?_
  refine WL.nil ?_
  refine W.seq ?_
  refine W.region ?_
  refine WL.val run_move rfl rfl ?_
  refine WL.val (run_convInt64 Tryz.underlying23 Tryz.underlying3 rfl (by omega) (by omega)) rfl rfl ?_
  refine WL.eff (eff_call Tryz.call42 (snew_ok (n := ((nB b : Nat) : Int)) h)) rfl rfl ?_
  rintro _ w hv
  rcases hv with ⟨N, hN, h1N, hN2, bs, rfl, h⟩ | ⟨hno, rfl, h⟩
  · skip
    have hNn : N = nB b := by omega
    subst hNn
    have ob_ := openS h
    obtain ⟨gd, od, cd, am, cm, hw, h⟩ := ob_
    have ob_ := Own.bounds h.p1
    obtain ⟨hdc, hdm⟩ := ob_
    have hml : (newS (nB b)).m.length = (nB b + 7) / 8 := List.length_replicate
    have ob2_ := Own.addr h.p2 (by rw [hml]; omega)
    obtain ⟨gm, om, ham⟩ := ob2_
    subst ham
    refine WL.val run_move rfl rfl ?_
    refine WL.val (run_extract rfl rfl) rfl rfl ?_
    refine WL.val (run_extract rfl rfl) rfl rfl ?_
    refine WL.val run_assign rfl rfl ?_
    refine WL.val run_assign rfl rfl ?_
    refine WL.nil ?_
    refine W.seq ?_
    refine W.seq ?_
    refine W.region ?_
    refine WL.val run_move rfl rfl ?_
    refine WL.val (run_neqF rfl rfl (by decide)) rfl rfl ?_
    refine WL.val run_move rfl rfl ?_
    refine WL.val run_move rfl rfl ?_
    refine WL.val (run_lenSlice Tryz.underlying22 rfl) rfl rfl ?_
    refine WL.val run_move rfl rfl ?_
    refine WL.val (run_nilCheck rfl) rfl rfl ?_
    refine WL.val (run_fieldAddr 2 Tryz.underlying146 rfl Tryz.sizeOf144 rfl rfl) rfl rfl ?_
    refine WL.val (run_load1 Tryz.isAgg144 rfl (h.cellB rfl)) rfl rfl ?_
    refine WL.val (run_lenSlice Tryz.underlying144 rfl) rfl rfl ?_
    refine WL.val (run_addN (m := 2) (n := (newS (nB b)).m.length) rfl rfl (by omega)) rfl rfl ?_
    refine WL.dec (run_lss rfl rfl) rfl rfl (fun c33 => ?_) (fun c33 => ?_)
    · skip
      refine WL.val (run_pickF rfl) rfl rfl ?_
      refine WL.nil ?_
      refine W.condT rfl ?_
      refine W.seq ?_
      refine W.region ?_
      refine WL.val run_assign rfl rfl ?_
      refine WL.val run_assign rfl rfl ?_
      refine WL.nil ?_
      refine W.ret ?_
      refine bodyQ.r2 (v1 := .pointer _) (v2 := .int .i64 _) Tryz.results29 rfl rfl ?_
      -- path TT
      exact .inr ⟨by unfold decS decS0; rw [if_neg (fun hh => by have := hh.2; rw [hml] at c33; omega)]; rfl, rfl, h.to⟩
    · skip
      refine WL.val (run_pickF rfl) rfl rfl ?_
      refine WL.nil ?_
      refine W.condF rfl ?_
      refine W.skip ?_
      refine W.seq ?_
      have h2b : 2 + (nB b + 7) / 8 ≤ b.length := by rw [hml] at c33; omega
      have hmB := mB_len h2b
      have hmm : (newS (nB b)).m.length = (mB b).length := by rw [hml, hmB]
      have ob_ := cut_gives (k := 2) C (by omega) hbc
      obtain ⟨a2, c2, hcut2, C2⟩ := ob_
      have ob_ := cut_gives (k := 2 + (nB b + 7) / 8) C h2b hbc
      obtain ⟨ar, cr, hcutR, CR⟩ := ob_
      have h2o : (2 : Nat) ≤ b.length := by omega
      have hdc2 : 8 * nB b ≤ cd := hdc
      refine W.draw Tryz.follows h (fun w h => ?_)
      refine WT.pure 0 rfl (by kernel_rfl) (fun w' => run_move) rfl rfl ?_
      refine WT.pure 1 rfl (by kernel_rfl) (fun w' => run_move) rfl rfl ?_
      refine WT.pure 2 rfl (by kernel_rfl) (fun w' => (run_nilCheck rfl)) rfl rfl ?_
      refine WT.pure 3 rfl (by kernel_rfl) (fun w' => (run_fieldAddr 2 Tryz.underlying146 rfl Tryz.sizeOf144 rfl rfl)) rfl rfl ?_
      refine WT.load1 4 rfl (by kernel_rfl) Tryz.isAgg144 rfl (h.cellB rfl) rfl rfl ?_
      refine WT.pure 5 rfl (by kernel_rfl) (fun w' => run_move) rfl rfl ?_
      refine WT.pure 6 rfl (by kernel_rfl) (fun w' => (run_cutLV (l := 2) Tryz.underlying22 Tryz.sizeOf5 rfl rfl h2o hcut2)) rfl rfl ?_
      refine WT.eff 7 [false] rfl (by kernel_rfl) (by kernel_rfl) (eff_copyIn (lo := 0) (m := (newS (nB b)).m.length) (h.fetch (Own 1 (.slice (some ⟨gm, om, none⟩) (newS (nB b)).m.length cm) (newS (nB b)).m.length (bytesV (newS (nB b)).m))) rfl rfl (h.readsTo C2) rfl Tryz.underlying144 Tryz.sizeOf5 (by omega) bytes_one) rfl rfl ?_
      rintro v42 w ⟨hv42, h⟩
      have hmin : min (b.drop 2).length (newS (nB b)).m.length = (nB b + 7) / 8 := by rw [hml, List.length_drop]; omega
      rw [hmin] at hv42 h
      have hsp : splice (bytesV (newS (nB b)).m) 0 ((bytesV (b.drop 2)).take ((nB b + 7) / 8)) = bytesV (mB b) := by
        have e1 : (bytesV (b.drop 2)).take ((nB b + 7) / 8) = bytesV (mB b) := by unfold mB bytesV; rw [List.map_take]
        rw [e1]
        unfold splice
        rw [List.take_zero, List.nil_append, Nat.zero_add, List.drop_eq_nil_of_le (by unfold bytesV; rw [List.length_map, List.length_map, hmm]; exact Nat.le_refl _), List.append_nil]
      rw [hsp, hmm] at h
      subst hv42
      refine ⟨trivial, ?_⟩
      refine WT.pure 8 rfl (by kernel_rfl) (fun w' => (run_addN (m := 2) (n := (nB b + 7) / 8) rfl rfl (by omega))) rfl rfl ?_
      refine WT.pure 9 rfl (by kernel_rfl) (fun w' => (run_cutLV (l := 2 + (nB b + 7) / 8) Tryz.underlying22 Tryz.sizeOf5 rfl rfl h2b hcutR)) rfl rfl ?_
      refine WT.pure 10 rfl (by kernel_rfl) (fun w' => run_assign) rfl rfl ?_
      refine WT.done (by kernel_rfl) ?_
      refine W.seq ?_
      refine W.seq ?_
      have h := h.fetch (blk bs [.int .i64 ((newS (nB b)).N : Int), .slice (some ⟨gd, od, none⟩) (8 * (newS (nB b)).N) cd, .slice (some ⟨gm, om, none⟩) (mB b).length cm] 146)
      have h : On W0 (blk bs [.int .i64 (nB b : Int), .slice (some ⟨gd, od, none⟩) (8 * nB b) cd, .slice (some ⟨gm, om, none⟩) (mB b).length cm] 146 :: Own 1 (.slice (some ⟨gm, om, none⟩) (mB b).length cm) (mB b).length (bytesV (mB b)) :: Own 1 (.slice (some ⟨gd, od, none⟩) (8 * nB b) cd) (8 * nB b) (bytesV (List.replicate (8 * nB b) 0)) :: L) w := h
      refine W.region ?_
      refine WL.val run_move rfl rfl ?_
      refine WL.val (run_nilCheck rfl) rfl rfl ?_
      refine WL.val (run_fieldAddr 2 Tryz.underlying146 rfl Tryz.sizeOf144 rfl rfl) rfl rfl ?_
      refine WL.val (run_load1 Tryz.isAgg144 rfl (h.cellB rfl)) rfl rfl ?_
      refine WL.eff (eff_call Tryz.call81 (runs_ok (m := mB b) h (Gives.ownO (v := .slice (some ⟨gm, om, none⟩) (mB b).length cm)) (by omega))) rfl rfl ?_
      rintro _ w ⟨Rr, a49, rfl, rfl, hR, h⟩
      refine WL.val (run_lenSlice Tryz.underlying147 rfl) rfl rfl ?_
      refine WL.val run_move rfl rfl ?_
      refine WL.nil ?_
      refine W.block ?_
      refine W.loop (fun (k : Nat) env w => k ≤ (rowsOf (mB b)).length ∧ ∃ (j : Env) (s : Sp) (rest : List UInt8) (ar : Option Addr) (cr : Nat), s.N = nB b ∧ s.m = mB b ∧ s.d.length = 8 * nB b ∧ rest.length ≤ 100000 ∧ Gives F (Bytes (.slice ar rest.length cr) rest) ∧ decRows ((rowsOf (mB b)).drop k) s rest = decRows (rowsOf (mB b)) (⟨nB b, List.replicate (8 * nB b) 0, mB b⟩ : Sp) (b.drop (2 + (nB b + 7) / 8)) ∧ (∀ r ∈ (rowsOf (mB b)).take k, r.1 + r.2 ≤ nB b) ∧ env = mkE j [(0, .slice ab b.length cb), (6, .pointer (some ⟨bs, 0, none⟩)), (8, .slice ar rest.length cr), (49, .slice a49 (rowsOf (mB b)).length (rowsOf (mB b)).length), (50, .int .i64 ((rowsOf (mB b)).length : Nat)), (51, .int .i64 (k : Nat))] ∧ On W0 (blk bs [.int .i64 (nB b : Int), .slice (some ⟨gd, od, none⟩) (8 * nB b) cd, .slice (some ⟨gm, om, none⟩) (mB b).length cm] 146 :: Own 1 (.slice (some ⟨gm, om, none⟩) (mB b).length cm) (mB b).length (bytesV (mB b)) :: Own 1 (.slice (some ⟨gd, od, none⟩) (8 * nB b) cd) (8 * nB b) (bytesV s.d) :: Own 2 (.slice a49 (rowsOf (mB b)).length (rowsOf (mB b)).length) (rowsOf (mB b)).length ((rowsOf (mB b)).flatMap rowc) :: L) w) (fun k => (rowsOf (mB b)).length - k) (0) ?_ ?_
      · exact ⟨Nat.zero_le _, _, (⟨nB b, List.replicate (8 * nB b) 0, mB b⟩ : Sp), (b.drop (2 + (nB b + 7) / 8)), ar, cr, rfl, rfl, List.length_replicate, by rw [List.length_drop]; omega, CR, rfl, (fun r hr => by cases hr), mkE_of ⟨rfl, rfl, rfl, rfl, rfl, rfl, trivial⟩, h.to⟩
      · clear h
        rintro k env w ⟨hkr, j, s, rest, ar, cr, hsN, hsm, hsd, hrl, CR, hD, hin, rfl, h⟩
        refine W.seq ?_
        refine W.region ?_
        refine WL.val (run_lss rfl rfl) rfl rfl ?_
        refine WL.nil ?_
        refine W.seq ?_
        refine W.condIf rfl (fun c13 => ?_) (fun c13 => ?_)
        · skip
          refine W.skip ?_
          refine W.seq ?_
          have hkl : k < (rowsOf (mB b)).length := by omega
          have ob_ : ∃ r, (rowsOf (mB b))[k]? = some r := ⟨(rowsOf (mB b))[k], by simp⟩
          obtain ⟨r, hr⟩ := ob_
          have haa := (h.cellsO (v := .slice a49 (rowsOf (mB b)).length (rowsOf (mB b)).length)).addr (by omega)
          obtain ⟨b9, o9, ha9⟩ := haa
          subst ha9
          have hpos := (hR.pos r (List.mem_of_getElem? hr)).2
          rw [hmB] at hpos
          have hfew := hR.few
          rw [hmB] at hfew
          refine W.block ?_
          refine W.seq ?_
          refine W.region ?_
          refine WL.val (run_indexAddr Tryz.underlying147 Tryz.sizeOf149 rfl rfl (by omega) (by omega)) rfl rfl ?_
          refine WL.val (run_loadN Tryz.isAgg149 Tryz.sizeOf149 rfl rfl ((h.cellsO (v := .slice (some ⟨b9, o9, none⟩) (rowsOf (mB b)).length (rowsOf (mB b)).length)).elem (i := k) (vs := rowc r) hkl (drop_flatMap rowc 2 rowc_length (rowsOf (mB b)) _ _ hr))) rfl rfl ?_
          refine WL.eff (eff_alloc h Tryz.zeroValue149 rfl) rfl rfl ?_
          rintro _ w ⟨b10, rfl, h⟩
          refine WL.eff (eff_storeN (vs := rowc r) h Tryz.sizeOf149 rfl rfl rfl rfl rfl (fun k _ _ => free0 k)) rfl rfl ?_
          rintro _ w h
          have h : On W0 (blk b10 (rowc r) 149 :: _) w := h
          refine WL.nil ?_
          refine W.seq ?_
          refine W.seq ?_
          refine W.draw Tryz.follows h (fun w h => ?_)
          refine WT.pure 0 rfl (by kernel_rfl) (fun w' => (run_indexAddrArr Tryz.underlying149 Tryz.sizeOf3 rfl rfl (by omega) (by omega))) rfl rfl ?_
          refine WT.load1 1 rfl (by kernel_rfl) Tryz.isAgg3 rfl (h.cellB rfl) rfl rfl ?_
          refine WT.pure 2 rfl (by kernel_rfl) (fun w' => (run_indexAddrArr Tryz.underlying149 Tryz.sizeOf3 rfl rfl (by omega) (by omega))) rfl rfl ?_
          refine WT.load1 3 rfl (by kernel_rfl) Tryz.isAgg3 rfl (h.cellB rfl) rfl rfl ?_
          refine WT.pure 4 rfl (by kernel_rfl) (fun w' => (run_addN (m := r.1) (n := r.2) rfl rfl (by omega))) rfl rfl ?_
          refine WT.pure 5 rfl (by kernel_rfl) (fun w' => run_move) rfl rfl ?_
          refine WT.pure 6 rfl (by kernel_rfl) (fun w' => (run_nilCheck rfl)) rfl rfl ?_
          refine WT.pure 7 rfl (by kernel_rfl) (fun w' => (run_fieldAddr 0 Tryz.underlying146 rfl Tryz.sizeOf3 rfl rfl)) rfl rfl ?_
          refine WT.load1 8 rfl (by kernel_rfl) Tryz.isAgg3 rfl (h.cellB rfl) rfl rfl ?_
          refine WT.dec 9 rfl (by kernel_rfl) (fun w' => (run_gtr rfl rfl)) rfl rfl (fun c64 => ?_) (fun c64 => ?_)
          · skip
            refine WT.pure 10 rfl (by kernel_rfl) (fun w' => run_move) rfl rfl ?_
            refine WT.skip 11 rfl (by kernel_rfl) rfl rfl ?_
            refine WT.skip 12 rfl (by kernel_rfl) rfl rfl ?_
            refine WT.skip 13 rfl (by kernel_rfl) rfl rfl ?_
            refine WT.skip 14 rfl (by kernel_rfl) rfl rfl ?_
            refine WT.skip 15 rfl (by kernel_rfl) rfl rfl ?_
            refine WT.skip 16 rfl (by kernel_rfl) rfl rfl ?_
            refine WT.pure 17 rfl (by kernel_rfl) (fun w' => (run_pickT rfl)) rfl rfl ?_
            refine WT.done (by kernel_rfl) ?_
            refine W.condT rfl ?_
            refine W.seq ?_
            refine W.region ?_
            refine WL.val run_assign rfl rfl ?_
            refine WL.val run_assign rfl rfl ?_
            refine WL.nil ?_
            refine W.ret ?_
            refine bodyQ.r2 (v1 := .pointer _) (v2 := .int .i64 _) Tryz.results29 rfl rfl ?_
            -- path TFLTT
            exact .inr ⟨by unfold decS decS0; rw [if_pos ⟨⟨h1N, hN2⟩, h2b⟩, ← hD, decRows_stop hr (.inl (by rw [hsN]; omega))]; rfl, rfl, h.to⟩
          · skip
            refine WT.pure 10 rfl (by kernel_rfl) (fun w' => run_move) rfl rfl ?_
            refine WT.pure 11 rfl (by kernel_rfl) (fun w' => run_move) rfl rfl ?_
            refine WT.pure 12 rfl (by kernel_rfl) (fun w' => (run_lenSlice Tryz.underlying22 rfl)) rfl rfl ?_
            refine WT.pure 13 rfl (by kernel_rfl) (fun w' => (run_indexAddrArr Tryz.underlying149 Tryz.sizeOf3 rfl rfl (by omega) (by omega))) rfl rfl ?_
            refine WT.load1 14 rfl (by kernel_rfl) Tryz.isAgg3 rfl (h.cellB rfl) rfl rfl ?_
            refine WT.pure 15 rfl (by kernel_rfl) (fun w' => (run_mulN (m := r.2) (n := 8) rfl rfl (by omega))) rfl rfl ?_
            refine WT.dec 16 rfl (by kernel_rfl) (fun w' => (run_lss rfl rfl)) rfl rfl (fun c71 => ?_) (fun c71 => ?_)
            · skip
              refine WT.pure 17 rfl (by kernel_rfl) (fun w' => (run_pickF rfl)) rfl rfl ?_
              refine WT.done (by kernel_rfl) ?_
              refine W.condT rfl ?_
              refine W.seq ?_
              refine W.region ?_
              refine WL.val run_assign rfl rfl ?_
              refine WL.val run_assign rfl rfl ?_
              refine WL.nil ?_
              refine W.ret ?_
              refine bodyQ.r2 (v1 := .pointer _) (v2 := .int .i64 _) Tryz.results29 rfl rfl ?_
              -- path TFLTFT
              exact .inr ⟨by unfold decS decS0; rw [if_pos ⟨⟨h1N, hN2⟩, h2b⟩, ← hD, decRows_stop hr (.inr (by omega))]; rfl, rfl, h.to⟩
            · skip
              refine WT.pure 17 rfl (by kernel_rfl) (fun w' => (run_pickF rfl)) rfl rfl ?_
              refine WT.done (by kernel_rfl) ?_
              refine W.condF rfl ?_
              refine W.skip ?_
              have hfit : ¬ (s.N < r.1 + r.2 ∨ rest.length < 8 * r.2) := by rw [hsN]; omega
              have hrN : r.1 + r.2 ≤ nB b := by omega
              have hr8 : 8 * r.2 ≤ rest.length := by omega
              have hpos2 := (hR.pos r (List.mem_of_getElem? hr)).1
              have hcrb := Cells.bounds (h.readsTo CR)
              have ob_ := sliced_part (b := gd) (o := od) (lo := r.1 * 8) (hi := (r.1 + r.2) * 8) (c := cd) (by omega) (by omega)
              obtain ⟨lo, hlo, hlo2⟩ := ob_
              have hlo3 : lo = r.1 * 8 := by omega
              subst hlo3
              have ob_ := cut_gives (k := 8 * r.2) CR hr8 hcrb.1
              obtain ⟨ax, cx, hcutX, CX⟩ := ob_
              have hm2 : (r.1 + r.2) * 8 - r.1 * 8 = 8 * r.2 := by omega
              rw [hm2] at hlo
              refine W.region ?_
              refine WL.val run_move rfl rfl ?_
              refine WL.val run_move rfl rfl ?_
              refine WL.val (run_indexAddrArr Tryz.underlying149 Tryz.sizeOf3 rfl rfl (by omega) (by omega)) rfl rfl ?_
              refine WL.val (run_load1 Tryz.isAgg3 rfl (h.cellB rfl)) rfl rfl ?_
              refine WL.val (run_indexAddrArr Tryz.underlying149 Tryz.sizeOf3 rfl rfl (by omega) (by omega)) rfl rfl ?_
              refine WL.val (run_load1 Tryz.isAgg3 rfl (h.cellB rfl)) rfl rfl ?_
              refine WL.eff (eff_call Tryz.call82 (part_ok (b := bs) (gd := gd) (od := od) (cd := cd) (N := nB b) (at_ := r.1) (n := r.2) hN2 hrN hdc2 h)) rfl rfl ?_
              rintro _ w ⟨hv79, h⟩
              rw [hlo] at hv79
              subst hv79
              refine WL.val run_move rfl rfl ?_
              refine WL.eff (eff_copyIn (lo := r.1 * 8) (m := 8 * r.2) (h.fetch (Own 1 (.slice (some ⟨gd, od, none⟩) (8 * nB b) cd) (8 * nB b) (bytesV s.d))) rfl rfl (h.readsTo CR) rfl Tryz.underlying22 Tryz.sizeOf5 (by omega) bytes_one) rfl rfl ?_
              rintro v81 w ⟨hv81, h⟩
              have hmin2 : min rest.length (8 * r.2) = 8 * r.2 := by omega
              rw [hmin2] at hv81 h
              have hov : splice (bytesV s.d) (r.1 * 8) ((bytesV rest).take (8 * r.2)) = bytesV (over s.d (8 * r.1) (rest.take (8 * r.2))) := by
                rw [show (bytesV rest).take (8 * r.2) = bytesV (rest.take (8 * r.2)) by unfold bytesV; rw [List.map_take], bytesV_over, Nat.mul_comm]
              rw [hov] at h
              subst hv81
              refine WL.val (run_cutLV (l := 8 * r.2) Tryz.underlying22 Tryz.sizeOf5 rfl rfl hr8 hcutX) rfl rfl ?_
              refine WL.val run_assign rfl rfl ?_
              refine WL.nil ?_
              refine W.region ?_
              refine WL.val (run_incN rfl rfl (by omega)) rfl rfl ?_
              refine WL.val run_move rfl rfl ?_
              refine WL.nil ?_
              -- round, path TFLTFF
              have hst := decRows_step (s := s) (rest := rest) hr hfit
              rw [hst, hsm, hsN] at hD
              have hov2 : (over s.d (8 * r.1) (rest.take (8 * r.2))).length = 8 * nB b := by rw [over_length (by rw [List.length_take]; omega)]; exact hsd
              exact ⟨k + 1, ⟨by omega, _, ⟨nB b, over s.d (8 * r.1) (rest.take (8 * r.2)), mB b⟩, rest.drop (8 * r.2), ax, cx, rfl, rfl, hov2, by rw [List.length_drop]; omega, CX, hD, fun q hq => by
                rw [RsM.take_snoc hr] at hq
                have ob_ := List.mem_append.1 hq
                rcases ob_ with hq | hq
                · exact hin q hq
                · simp at hq; subst hq; exact hrN, mkE_of ⟨rfl, rfl, rfl, rfl, rfl, rfl, trivial⟩, h.to⟩, by show (rowsOf (mB b)).length - (k + 1) < (rowsOf (mB b)).length - k; omega⟩
        · skip
          refine W.exit ?_
          refine W.seq ?_
          refine W.seq ?_
          have hkE : k = (rowsOf (mB b)).length := by omega
          have hsE : decS0 b = some s := by
            unfold decS0
            rw [if_pos ⟨⟨h1N, hN2⟩, h2b⟩, ← hD, hkE, List.drop_length]; rfl
          rw [hkE, List.take_length] at hin
          have hwf : Go.Sl.SpM.wfS s := ⟨by rw [hsd, hsN], by rw [hsN]; exact h1N, by rw [hsN]; exact hN2, by rw [hsm, hmB, hsN]⟩
          have hR2 : BitM.Rows s.m (rowsOf (mB b)) := by rw [hsm]; exact hR
          have hcapS : capS s := capS_rows hR2 (by rw [hsN]; exact hin)
          obtain ⟨sN, sd, sm⟩ := s
          have hsN : sN = nB b := hsN
          have hsm : sm = mB b := hsm
          subst hsN
          subst hsm
          have h := closeS (T := 146) (b := bs) (gd := gd) (od := od) (cd := cd) (am := some ⟨gm, om, none⟩) (cm := cm) (s := ⟨nB b, sd, mB b⟩) hwf (h.to (T := blk bs [.int .i64 (nB b : Int), .slice (some ⟨gd, od, none⟩) (8 * nB b) cd, .slice (some ⟨gm, om, none⟩) (mB b).length cm] 146 :: Own 1 (.slice (some ⟨gd, od, none⟩) (8 * nB b) cd) (8 * nB b) (bytesV sd) :: Own 1 (.slice (some ⟨gm, om, none⟩) (mB b).length cm) (mB b).length (bytesV (mB b)) :: L))
          refine W.region ?_
          refine WL.val run_move rfl rfl ?_
          refine WL.eff (eff_call Tryz.call76 (sencode_ok (b := bs) (s := ⟨nB b, sd, mB b⟩) hcapS h)) rfl rfl ?_
          rintro _ w ⟨a85, rfl, h⟩
          refine WL.val run_move rfl rfl ?_
          refine WL.eff (eff_call Tryz.call34 (bequal_ok (bs := SpM.encS ⟨nB b, sd, mB b⟩) (cs := b) h (Gives.ownO (v := .slice a85 (SpM.encS ⟨nB b, sd, mB b⟩).length (SpM.encS ⟨nB b, sd, mB b⟩).length)) (Gives.to C))) rfl rfl ?_
          rintro _ w ⟨hv, h⟩
          have hcs := Bool.eq_false_or_eq_true (decide (SpM.encS ⟨nB b, sd, mB b⟩ = b))
          rcases hcs with heq | heq <;> (rw [heq] at hv; subst hv)
          · skip
            refine WL.val (run_not rfl) rfl rfl ?_
            refine WL.nil ?_
            refine W.condF rfl ?_
            refine W.skip ?_
            refine W.seq ?_
            refine W.region ?_
            refine WL.val run_move rfl rfl ?_
            refine WL.val run_assign rfl rfl ?_
            refine WL.val run_assign rfl rfl ?_
            refine WL.nil ?_
            refine W.ret ?_
            refine bodyQ.r2 (v1 := .pointer _) (v2 := .int .i64 _) Tryz.results29 rfl rfl ?_
            -- path TFLFT
            have he := of_decide_eq_true heq
            exact .inl ⟨_, bs, by unfold decS; rw [hsE]; exact if_pos he, hcapS, rfl, h.to⟩
          · skip
            refine WL.val (run_not rfl) rfl rfl ?_
            refine WL.nil ?_
            refine W.condT rfl ?_
            refine W.seq ?_
            refine W.region ?_
            refine WL.val run_assign rfl rfl ?_
            refine WL.val run_assign rfl rfl ?_
            refine WL.nil ?_
            refine W.ret ?_
            refine bodyQ.r2 (v1 := .pointer _) (v2 := .int .i64 _) Tryz.results29 rfl rfl ?_
            -- path TFLFF
            have he := of_decide_eq_false heq
            exact .inr ⟨by unfold decS; rw [hsE]; exact if_neg he, rfl, h.to⟩
  · skip
    refine WL.val run_move rfl rfl ?_
    refine WL.val (run_extract rfl rfl) rfl rfl ?_
    refine WL.val (run_extract rfl rfl) rfl rfl ?_
    refine WL.val run_assign rfl rfl ?_
    refine WL.val run_assign rfl rfl ?_
    refine WL.nil ?_
    refine W.seq ?_
    refine W.seq ?_
    refine W.region ?_
    refine WL.val run_move rfl rfl ?_
    refine WL.val (run_neqT rfl rfl (by decide)) rfl rfl ?_
    refine WL.val run_move rfl rfl ?_
    refine WL.skip rfl rfl ?_
    refine WL.skip rfl rfl ?_
    refine WL.skip rfl rfl ?_
    refine WL.skip rfl rfl ?_
    refine WL.skip rfl rfl ?_
    refine WL.skip rfl rfl ?_
    refine WL.skip rfl rfl ?_
    refine WL.skip rfl rfl ?_
    refine WL.skip rfl rfl ?_
    refine WL.val (run_pickT rfl) rfl rfl ?_
    refine WL.nil ?_
    refine W.condT rfl ?_
    refine W.seq ?_
    refine W.region ?_
    refine WL.val run_assign rfl rfl ?_
    refine WL.val run_assign rfl rfl ?_
    refine WL.nil ?_
    refine W.ret ?_
    refine bodyQ.r2 (v1 := .pointer _) (v2 := .int .i64 _) Tryz.results29 rfl rfl ?_
    -- path F
    exact .inr ⟨by unfold decS decS0; rw [if_neg (fun hh => hno (by omega))]; rfl, rfl, h.to⟩

end Go.Proofs.YtdpakoefdpmebaaGreat
