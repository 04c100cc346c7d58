/-
  A unit: a new one, the same, apart: the contracts. Lines of walks printed by a program of the prover's.
-/
import Derived.Test.YtdpakoefdpmebaaUnit6
namespace Go.Proofs.Ytdpakoefdpmebaa
open Go Go.Sl Go.Sl.BitM Go.Sl.SpM Go.Sl.RsM Go.Sl.ByM Go.Sl.UnM
set_option linter.unusedVariables false
set_option linter.unusedSimpArgs false
set_option maxHeartbeats 1000000
set_option maxRecDepth 8000
variable {W0 w : World} {L F : List HProp}

theorem usame_ok {s1 k1 c1 i1 : Int} {d1 : List UInt8} {a1 : Option Addr} {x1 : Nat} {s2 k2 c2 i2 : Int} {d2 : List UInt8} {a2 : Option Addr} {x2 : Nat} (h : On W0 L w) (C1 : Gives L (Bytes (.slice a1 d1.length x1) d1)) (C2 : Gives L (Bytes (.slice a2 d2.length x2) d2)) : Calls Try.prog 8 #[(⟨s1, k1, c1, d1, i1⟩ : Rp).val (.slice a1 d1.length x1), (⟨s2, k2, c2, d2, i2⟩ : Rp).val (.slice a2 d2.length x2)] w (Ret fun v w' => v = .bool (decide ((⟨s1, k1, c1, d1, i1⟩ : Rp) = (⟨s2, k2, c2, d2, i2⟩ : Rp))) ∧ On W0 L w') := by
  refine enter Try.func8 rfl Try.ntmps8 rfl ?_
  refine W.seq ?_
  refine W.region ?_
  refine WL.eff (eff_box (v := .agg _) (l := (⟨s1, k1, c1, d1, i1⟩ : Rp).cells (.slice a1 d1.length x1)) h rfl rfl) rfl rfl ?_
  rintro _ w ⟨b2, rfl, h⟩
  have h : On W0 (blk b2 [.int .i64 s1, .int .i64 k1, .int .i64 c1, .slice a1 d1.length x1, .int .i64 i1] 31 :: _) w := h
  refine WL.eff (eff_box (v := .agg _) (l := (⟨s2, k2, c2, d2, i2⟩ : Rp).cells (.slice a2 d2.length x2)) h rfl rfl) rfl rfl ?_
  rintro _ w ⟨b3, rfl, h⟩
  have h : On W0 (blk b3 [.int .i64 s2, .int .i64 k2, .int .i64 c2, .slice a2 d2.length x2, .int .i64 i2] 31 :: _) w := h
  refine WL.val run_assign rfl rfl ?_
  refine WL.nil ?_
  refine W.seq ?_
  refine W.region ?_
  refine WL.val (run_fieldAddr 0 Try.underlying31 rfl Try.sizeOf3 rfl rfl) rfl rfl ?_
  refine WL.val (run_load1 Try.isAgg3 rfl (h.cellB rfl)) rfl rfl ?_
  refine WL.val (run_fieldAddr 0 Try.underlying31 rfl Try.sizeOf3 rfl rfl) rfl rfl ?_
  refine WL.val (run_load1 Try.isAgg3 rfl (h.cellB rfl)) rfl rfl ?_
  refine WL.dec (run_eql rfl rfl) rfl rfl (fun c9 => ?_) (fun c9 => ?_)
  · skip
    refine WL.val run_move rfl rfl ?_
    refine WL.val (run_fieldAddr 1 Try.underlying31 rfl Try.sizeOf3 rfl rfl) rfl rfl ?_
    refine WL.val (run_load1 Try.isAgg3 rfl (h.cellB rfl)) rfl rfl ?_
    refine WL.val (run_fieldAddr 1 Try.underlying31 rfl Try.sizeOf3 rfl rfl) rfl rfl ?_
    refine WL.val (run_load1 Try.isAgg3 rfl (h.cellB rfl)) rfl rfl ?_
    refine WL.dec (run_eql rfl rfl) rfl rfl (fun c15 => ?_) (fun c15 => ?_)
    · skip
      refine WL.val (run_pickT rfl) rfl rfl ?_
      refine WL.val run_move rfl rfl ?_
      refine WL.val (run_fieldAddr 2 Try.underlying31 rfl Try.sizeOf3 rfl rfl) rfl rfl ?_
      refine WL.val (run_load1 Try.isAgg3 rfl (h.cellB rfl)) rfl rfl ?_
      refine WL.val (run_fieldAddr 2 Try.underlying31 rfl Try.sizeOf3 rfl rfl) rfl rfl ?_
      refine WL.val (run_load1 Try.isAgg3 rfl (h.cellB rfl)) rfl rfl ?_
      refine WL.dec (run_eql rfl rfl) rfl rfl (fun c22 => ?_) (fun c22 => ?_)
      · skip
        refine WL.val (run_pickT rfl) rfl rfl ?_
        refine WL.val run_move rfl rfl ?_
        refine WL.val (run_fieldAddr 4 Try.underlying31 rfl Try.sizeOf3 rfl rfl) rfl rfl ?_
        refine WL.val (run_load1 Try.isAgg3 rfl (h.cellB rfl)) rfl rfl ?_
        refine WL.val (run_fieldAddr 4 Try.underlying31 rfl Try.sizeOf3 rfl rfl) rfl rfl ?_
        refine WL.val (run_load1 Try.isAgg3 rfl (h.cellB rfl)) rfl rfl ?_
        refine WL.dec (run_eql rfl rfl) rfl rfl (fun c29 => ?_) (fun c29 => ?_)
        · skip
          refine WL.val (run_pickT rfl) rfl rfl ?_
          refine WL.val run_move rfl rfl ?_
          refine WL.val (run_fieldAddr 3 Try.underlying31 rfl Try.sizeOf23 rfl rfl) rfl rfl ?_
          refine WL.val (run_load1 Try.isAgg23 rfl (h.cellB rfl)) rfl rfl ?_
          refine WL.val (run_fieldAddr 3 Try.underlying31 rfl Try.sizeOf23 rfl rfl) rfl rfl ?_
          refine WL.val (run_load1 Try.isAgg23 rfl (h.cellB rfl)) rfl rfl ?_
          refine WL.eff (eff_call Try.call14 (bequal_ok (bs := d1) (cs := d2) h (Gives.to C1) (Gives.to C2))) rfl rfl ?_
          rintro _ w ⟨rfl, h⟩
          refine WL.val (run_pickT rfl) rfl rfl ?_
          refine WL.val run_assign rfl rfl ?_
          refine WL.nil ?_
          refine W.ret ?_
          refine bodyQ.r1 (v := .bool _) Try.results8 rfl ?_
          -- path TTTT
          exact ⟨congrArg Value.bool (decide_eq_decide.2 ⟨fun e => by rw [c9, c15, c22, c29, e], fun e => by cases e; rfl⟩), h.to⟩
        · skip
          refine WL.val (run_pickT rfl) rfl rfl ?_
          refine WL.val run_move rfl rfl ?_
          refine WL.skip rfl rfl ?_
          refine WL.skip rfl rfl ?_
          refine WL.skip rfl rfl ?_
          refine WL.skip rfl rfl ?_
          refine WL.skip rfl rfl ?_
          refine WL.val (run_pickF rfl) rfl rfl ?_
          refine WL.val run_assign rfl rfl ?_
          refine WL.nil ?_
          refine W.ret ?_
          refine bodyQ.r1 (v := .bool _) Try.results8 rfl ?_
          -- path TTTF
          exact ⟨congrArg Value.bool (decide_eq_false (by intro e; cases e; exact c29 rfl)).symm, h.to⟩
      · skip
        refine WL.val (run_pickT rfl) rfl rfl ?_
        refine WL.val run_move rfl rfl ?_
        refine WL.skip rfl rfl ?_
        refine WL.skip rfl rfl ?_
        refine WL.skip rfl rfl ?_
        refine WL.skip rfl rfl ?_
        refine WL.skip rfl rfl ?_
        refine WL.val (run_pickF rfl) rfl rfl ?_
        refine WL.val run_move rfl rfl ?_
        refine WL.skip rfl rfl ?_
        refine WL.skip rfl rfl ?_
        refine WL.skip rfl rfl ?_
        refine WL.skip rfl rfl ?_
        refine WL.skip rfl rfl ?_
        refine WL.val (run_pickF rfl) rfl rfl ?_
        refine WL.val run_assign rfl rfl ?_
        refine WL.nil ?_
        refine W.ret ?_
        refine bodyQ.r1 (v := .bool _) Try.results8 rfl ?_
        -- path TTF
        exact ⟨congrArg Value.bool (decide_eq_false (by intro e; cases e; exact c22 rfl)).symm, h.to⟩
    · skip
      refine WL.val (run_pickT rfl) rfl rfl ?_
      refine WL.val run_move rfl rfl ?_
      refine WL.skip rfl rfl ?_
      refine WL.skip rfl rfl ?_
      refine WL.skip rfl rfl ?_
      refine WL.skip rfl rfl ?_
      refine WL.skip rfl rfl ?_
      refine WL.val (run_pickF rfl) rfl rfl ?_
      refine WL.val run_move rfl rfl ?_
      refine WL.skip rfl rfl ?_
      refine WL.skip rfl rfl ?_
      refine WL.skip rfl rfl ?_
      refine WL.skip rfl rfl ?_
      refine WL.skip rfl rfl ?_
      refine WL.val (run_pickF rfl) rfl rfl ?_
      refine WL.val run_move rfl rfl ?_
      refine WL.skip rfl rfl ?_
      refine WL.skip rfl rfl ?_
      refine WL.skip rfl rfl ?_
      refine WL.skip rfl rfl ?_
      refine WL.skip rfl rfl ?_
      refine WL.val (run_pickF rfl) rfl rfl ?_
      refine WL.val run_assign rfl rfl ?_
      refine WL.nil ?_
      refine W.ret ?_
      refine bodyQ.r1 (v := .bool _) Try.results8 rfl ?_
      -- path TF
      exact ⟨congrArg Value.bool (decide_eq_false (by intro e; cases e; exact c15 rfl)).symm, h.to⟩
  · skip
    refine WL.val run_move rfl rfl ?_
    refine WL.skip rfl rfl ?_
    refine WL.skip rfl rfl ?_
    refine WL.skip rfl rfl ?_
    refine WL.skip rfl rfl ?_
    refine WL.skip rfl rfl ?_
    refine WL.val (run_pickF rfl) rfl rfl ?_
    refine WL.val run_move rfl rfl ?_
    refine WL.skip rfl rfl ?_
    refine WL.skip rfl rfl ?_
    refine WL.skip rfl rfl ?_
    refine WL.skip rfl rfl ?_
    refine WL.skip rfl rfl ?_
    refine WL.val (run_pickF rfl) rfl rfl ?_
    refine WL.val run_move rfl rfl ?_
    refine WL.skip rfl rfl ?_
    refine WL.skip rfl rfl ?_
    refine WL.skip rfl rfl ?_
    refine WL.skip rfl rfl ?_
    refine WL.skip rfl rfl ?_
    refine WL.val (run_pickF rfl) rfl rfl ?_
    refine WL.val run_move rfl rfl ?_
    refine WL.skip rfl rfl ?_
    refine WL.skip rfl rfl ?_
    refine WL.skip rfl rfl ?_
    refine WL.skip rfl rfl ?_
    refine WL.skip rfl rfl ?_
    refine WL.val (run_pickF rfl) rfl rfl ?_
    refine WL.val run_assign rfl rfl ?_
    refine WL.nil ?_
    refine W.ret ?_
    refine bodyQ.r1 (v := .bool _) Try.results8 rfl ?_
    -- path F
    exact ⟨congrArg Value.bool (decide_eq_false (by intro e; cases e; exact c9 rfl)).symm, h.to⟩

theorem unewR_ok {n : Int} {pool : PoolL} (h : On W0 L w) : Calls Try.prog 9 #[.int .i64 n] w (Ret fun v w' => (∃ N : Nat, n = N ∧ 1 ≤ N ∧ N ≤ 1024 ∧ ∃ (bu bs bt : Nat) (mbs : List Nat), mbs.length = 8 ∧ v = .tuple #[.pointer (some ⟨bu, 0, none⟩), .int .i64 0] ∧ On W0 (blk bu (ucells bs bt (mbs.map zG)) 77 :: SpP 89 bs (newS N) :: blk bt newT.cells 93 :: Big (GOwn pool) (mbs.map zG) :: L) w') ∨ (¬ (1 ≤ n ∧ n ≤ 1024) ∧ v = .tuple #[.pointer none, .int .i64 1] ∧ On W0 L w')) := by
  refine enter Try.func9 rfl Try.ntmps9 rfl ?_
  refine W.seq ?_
  refine W.region ?_
  refine WL.val run_assign rfl rfl ?_
  refine WL.val run_assign rfl rfl ?_
  refine WL.nil ?_
  refine W.seq ?_
  refine W.region ?_
  refine WL.val run_move rfl rfl ?_
  refine WL.eff (eff_call Try.call15 (snew_ok (n := n) h)) rfl rfl ?_
  rintro _ w hv
  rcases hv with ⟨N, rfl, h1, h2b, bs, rfl, h⟩ | ⟨hno, rfl, h⟩
  · skip
    refine WL.val run_move rfl rfl ?_
    refine WL.val (run_extract rfl rfl) rfl rfl ?_
    refine WL.val (run_extract rfl rfl) rfl rfl ?_
    refine WL.val run_assign rfl rfl ?_
    refine WL.val run_assign rfl rfl ?_
    refine WL.nil ?_
    refine W.seq ?_
    refine W.seq ?_
    refine W.region ?_
    refine WL.val run_move rfl rfl ?_
    refine WL.val (run_neqF rfl rfl (by decide)) rfl rfl ?_
    refine WL.nil ?_
    refine W.condF rfl ?_
    refine W.skip ?_
    refine W.seq ?_
    refine W.region ?_
    refine WL.val run_move rfl rfl ?_
    refine WL.eff (eff_call Try.call16 (rnew_ok h)) rfl rfl ?_
    rintro _ w ⟨bt, rfl, h⟩
    refine WL.val (run_buildS (pl := [(0, 1), (1, 1), (2, 24)]) (out := [.pointer _, .pointer _, .slice _ _ _, .int .u64 _, .map _, .slice _ _ _, .int .u64 _, .map _, .slice _ _ _, .int .u64 _, .map _, .slice _ _ _, .int .u64 _, .map _, .slice _ _ _, .int .u64 _, .map _, .slice _ _ _, .int .u64 _, .map _, .slice _ _ _, .int .u64 _, .map _, .slice _ _ _, .int .u64 _, .map _]) Try.underlying77 Try.zeroValue77 (fun w => by kernel_rfl) rfl (⟨⟨_, _, rfl, rfl, by decide⟩, ⟨⟨_, _, rfl, rfl, by decide⟩, trivial⟩⟩) rfl) rfl rfl ?_
    refine WL.eff (eff_box (v := .agg _) (l := [.pointer _, .pointer _, .slice _ _ _, .int .u64 _, .map _, .slice _ _ _, .int .u64 _, .map _, .slice _ _ _, .int .u64 _, .map _, .slice _ _ _, .int .u64 _, .map _, .slice _ _ _, .int .u64 _, .map _, .slice _ _ _, .int .u64 _, .map _, .slice _ _ _, .int .u64 _, .map _, .slice _ _ _, .int .u64 _, .map _]) h rfl rfl) rfl rfl ?_
    rintro _ w ⟨b19, rfl, h⟩
    refine WL.val run_assign rfl rfl ?_
    refine WL.nil ?_
    refine W.seq ?_
    refine W.seq ?_
    refine W.region ?_
    refine WL.val run_move rfl rfl ?_
    refine WL.nil ?_
    refine W.block ?_
    refine W.loop (fun (k : Nat) env w => k ≤ 8 ∧ ∃ (j : Env) (mbs : List Nat), mbs.length = k ∧ env = mkE j [(6, .pointer (some ⟨b19, 0, none⟩)), (20, .int .i64 (k : Int))] ∧ On W0 (blk b19 (ncells bs bt (mbs.map zG) (8 - k)) 77 :: SpP 89 bs (newS N) :: blk bt newT.cells 93 :: Big (GOwn pool) (mbs.map zG) :: L) w) (fun k => 8 - k) (0) ?_ ?_
    · have h : On W0 (Big (GOwn pool) (([] : List Nat).map zG) :: blk b19 (ncells bs bt (([] : List Nat).map zG) (8 - 0)) 77 :: _) w := Big.nil h
      exact ⟨Nat.zero_le _, _, [], rfl, mkE_of ⟨rfl, rfl, trivial⟩, h.to⟩
    · rintro k env w ⟨hk8, j, mbs, hml, rfl, h⟩
      have hgl : (mbs.map zG).length = k := by rw [List.length_map, hml]
      refine W.seq ?_
      refine W.region ?_
      refine WL.val (run_lss rfl rfl) rfl rfl ?_
      refine WL.nil ?_
      refine W.seq ?_
      refine W.condIf rfl (fun c12 => ?_) (fun c12 => ?_)
      · skip
        refine W.skip ?_
        refine W.seq ?_
        refine W.block ?_
        refine W.seq ?_
        have h8k : 8 - k = 8 - (k + 1) + 1 := by omega
        rw [h8k] at h
        refine W.region ?_
        refine WL.val run_move rfl rfl ?_
        refine WL.val run_assign rfl rfl ?_
        refine WL.nil ?_
        refine W.region ?_
        refine WL.val run_move rfl rfl ?_
        refine WL.val run_move rfl rfl ?_
        refine WL.eff (eff_makeMap (kd := .u64) h) rfl rfl ?_
        rintro _ w ⟨b25, rfl, h⟩
        refine WL.val (run_nilCheck rfl) rfl rfl ?_
        refine WL.val (run_fieldAddr 2 Try.underlying77 rfl Try.sizeOf75 rfl rfl) rfl rfl ?_
        refine WL.val (run_indexAddrArr Try.underlying75 Try.sizeOf74 rfl rfl (by omega) (by omega)) rfl rfl ?_
        refine WL.val (run_fieldAddr 2 Try.underlying74 rfl Try.sizeOf72 rfl rfl) rfl rfl ?_
        refine WL.eff (eff_store (v := .map (some b25)) h Try.sizeOf72 rfl rfl rfl (nlt (bs := bs) (bt := bt) hgl) (free0 _)) rfl rfl ?_
        rintro _ w h
        rw [nset (bs := bs) (bt := bt) hgl] at h
        have h := zG_own (pool := pool) (h.fetch (MapC b25 .u64 [] 0))
        have h := Big.push ((h.fetch (Big (GOwn pool) (mbs.map zG))).fetch (GOwn pool (zG b25)))
        rw [show mbs.map zG ++ [zG b25] = (mbs ++ [b25]).map zG by rw [List.map_append]; rfl] at h
        refine WL.nil ?_
        refine W.region ?_
        refine WL.val (run_incN rfl rfl (by omega)) rfl rfl ?_
        refine WL.val run_move rfl rfl ?_
        refine WL.nil ?_
        -- round, path TLT
        exact ⟨k + 1, ⟨by omega, _, mbs ++ [b25], by rw [List.length_append, hml]; rfl, mkE_of ⟨rfl, rfl, trivial⟩, h.to⟩, by show 8 - (k + 1) < 8 - k; omega⟩
      · skip
        refine W.exit ?_
        refine W.seq ?_
        refine W.region ?_
        refine WL.val run_move rfl rfl ?_
        refine WL.val run_assign rfl rfl ?_
        refine WL.val run_assign rfl rfl ?_
        refine WL.nil ?_
        refine W.ret ?_
        refine bodyQ.r2 (v1 := .pointer _) (v2 := .int .i64 _) Try.results9 rfl rfl ?_
        -- path TLF
        have ob_ : k = 8 := by omega
        obtain rfl := ob_
        have h2 : On W0 (blk b19 (ucells bs bt (mbs.map zG)) 77 :: SpP 89 bs (newS N) :: blk bt newT.cells 93 :: Big (GOwn pool) (mbs.map zG) :: L) w := by
          have e : ncells bs bt (mbs.map zG) (8 - 8) = ucells bs bt (mbs.map zG) := by show _ :: _ :: ((mbs.map zG).flatMap GX.row ++ []) = _; rw [List.append_nil]
          rw [e] at h
          exact h
        exact .inl ⟨N, rfl, h1, h2b, b19, bs, bt, mbs, hml, rfl, h2⟩
  · skip
    refine WL.val run_move rfl rfl ?_
    refine WL.val (run_extract rfl rfl) rfl rfl ?_
    refine WL.val (run_extract rfl rfl) rfl rfl ?_
    refine WL.val run_assign rfl rfl ?_
    refine WL.val run_assign rfl rfl ?_
    refine WL.nil ?_
    refine W.seq ?_
    refine W.seq ?_
    refine W.region ?_
    refine WL.val run_move rfl rfl ?_
    refine WL.val (run_neqT rfl rfl (by decide)) rfl rfl ?_
    refine WL.nil ?_
    refine W.condT rfl ?_
    refine W.seq ?_
    refine W.region ?_
    refine WL.val run_move rfl rfl ?_
    refine WL.val run_assign rfl rfl ?_
    refine WL.val run_assign rfl rfl ?_
    refine WL.nil ?_
    refine W.ret ?_
    refine bodyQ.r2 (v1 := .pointer _) (v2 := .int .i64 _) Try.results9 rfl rfl ?_
    -- path F
    exact .inr ⟨hno, rfl, h⟩

theorem unew_ok {n : Int} {pool : PoolL} (h : On W0 L w) : Calls Try.prog 9 #[.int .i64 n] w (Ret fun v w' => (∃ N : Nat, n = N ∧ 1 ≤ N ∧ N ≤ 1024 ∧ ∃ bu ms, v = .tuple #[.pointer (some ⟨bu, 0, none⟩), .int .i64 0] ∧ On W0 (UnP 77 89 93 bu pool ms (newU N) :: L) w') ∨ (¬ (1 ≤ n ∧ n ≤ 1024) ∧ v = .tuple #[.pointer none, .int .i64 1] ∧ On W0 L w')) := by
  skip
  exact (unewR_ok (pool := pool) h).mono fun e w' he => by
    obtain ⟨v, he, hv⟩ := he
    refine ⟨v, he, ?_⟩
    rcases hv with ⟨N, hN, h1, h2, bu, bs, bt, mbs, hml, hv, h⟩ | hv
    · refine .inl ⟨N, hN, h1, h2, bu, _, hv, closeU (u := newU N) ⟨?_, rfl⟩ rfl h⟩
      rw [List.map_map]
      show mbs.map (fun _ => (⟨[], 0, []⟩ : Gs)) = List.replicate 8 ⟨[], 0, []⟩
      rw [List.map_const', hml]
    · exact .inr hv

end Go.Proofs.Ytdpakoefdpmebaa
