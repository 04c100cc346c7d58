/-
  A unit: commands of blocks: the contracts. Lines of walks printed by a program of the prover's.
-/
import Derived.Test.YtdpakoefdpmebaaGreatUnit17
import Derived.Test.YtdpakoefdpmebaaGreatUnitSeq
namespace Go.Proofs.YtdpakoefdpmebaaGreat
open Go Go.Sl Go.Sl.BitM Go.Sl.SpM Go.Sl.RsM Go.Sl.ByM Go.Sl.UnM
set_option linter.unusedVariables false
set_option linter.unusedSimpArgs false
set_option maxHeartbeats 1000000
set_option maxRecDepth 8000
variable {W0 w : World} {L F : List HProp}


theorem ownGives {v : Value} {size n : Nat} {xs : List Value} {L' : List HProp} (h : On W0 L w) [p : OwnIn L v size n xs L'] : Gives L (Cells size v n xs) := Gives.ownO


theorem usameR_n {s1 k1 c1 i1 : Int} {d1 : List UInt8} {a1 : Option Addr} {x1 : Nat} {s2 k2 c2 i2 : Int} {d2 : List UInt8} {a2 : Option Addr} {x2 n1 n2 : Nat} (h1 : d1.length = n1) (h2 : d2.length = n2) (h : On W0 L w) (C1 : Gives L (Cells 1 (.slice a1 n1 x1) n1 (bytesV d1))) (C2 : Gives L (Cells 1 (.slice a2 n2 x2) n2 (bytesV d2))) :
    Calls Tryz.prog 16 #[(⟨s1, k1, c1, d1, i1⟩ : Rp).val (.slice a1 n1 x1), (⟨s2, k2, c2, d2, i2⟩ : Rp).val (.slice a2 n2 x2)] w (Ret fun v w' => v = .bool (decide ((⟨s1, k1, c1, d1, i1⟩ : Rp) = (⟨s2, k2, c2, d2, i2⟩ : Rp))) ∧ On W0 L w') := by
  subst h1
  subst h2
  exact usameR_ok h C1 C2

theorem few17_ok {al : Option Addr} {cl : Nat} {l : List A17} (h : On W0 F w) (C : Gives F (Cells 13 (.slice al l.length cl) l.length (l.flatMap A17.cells))) : Calls Tryz.prog 11 #[.slice al l.length cl] w (Ret fun v w' => ∃ t : Bool, v = .bool t ∧ (t = true → l.length ≤ 60 ∧ ∀ a ∈ l, a.c.bs.length ≤ 600) ∧ On W0 F w') := by
  refine enter Tryz.func11 rfl Tryz.ntmps11 rfl ?_
  have hbd := (h.reads C).bounds
  obtain ⟨hc1, hc2⟩ := hbd
  have hmx := maxLen_eq
  refine W.seq ?_
  refine W.region ?_
  refine WL.val run_assign rfl rfl ?_
  refine WL.nil ?_
  refine W.seq ?_
  refine W.seq ?_
  refine W.region ?_
  refine WL.val run_move rfl rfl ?_
  refine WL.val (run_lenSlice Tryz.underlying30 rfl) rfl rfl ?_
  refine WL.val (run_gtr rfl rfl) rfl rfl ?_
  refine WL.nil ?_
  refine W.condIf rfl (fun c2 => ?_) (fun c2 => ?_)
  · skip
    refine W.seq ?_
    refine W.region ?_
    refine WL.val run_assign rfl rfl ?_
    refine WL.nil ?_
    refine W.ret ?_
    refine bodyQ.r1 (v := .bool _) Tryz.results11 rfl ?_
    -- path T
    exact ⟨false, rfl, fun e => (by cases e), h⟩
  · skip
    refine W.skip ?_
    refine W.seq ?_
    refine W.seq ?_
    refine W.region ?_
    refine WL.val run_assign rfl rfl ?_
    refine WL.nil ?_
    refine W.block ?_
    refine W.loop (fun (k : Nat) env w => ∃ j, env = mkE j [(0, .slice al l.length cl), (3, .int .i64 (k : Int))] ∧ k ≤ l.length ∧ (∀ (i : Nat) a, i < k → l[i]? = some a → a.c.bs.length ≤ 600) ∧ On W0 F w) (fun k => l.length - k) (0) ?_ ?_
    · exact ⟨_, mkE_of ⟨rfl, rfl, trivial⟩, Nat.zero_le _, by intro i a hi; omega, h⟩
    · rintro k env w ⟨j, rfl, hk, hno, h⟩
      refine W.seq ?_
      refine W.seq ?_
      refine W.region ?_
      refine WL.val run_move rfl rfl ?_
      refine WL.val run_move rfl rfl ?_
      refine WL.val (run_lenSlice Tryz.underlying30 rfl) rfl rfl ?_
      refine WL.val (run_lss rfl rfl) rfl rfl ?_
      refine WL.nil ?_
      refine W.condIf rfl (fun c10 => ?_) (fun c10 => ?_)
      · skip
        refine W.skip ?_
        refine W.seq ?_
        refine W.block ?_
        refine W.seq ?_
        have hkl : k < l.length := by omega
        have ad_ := (h.readsTo C).addr (by omega)
        obtain ⟨bq, oq, hal⟩ := ad_
        subst hal
        have ex_ : ∃ a, l[k]? = some a := ⟨l[k], by simp⟩
        obtain ⟨⟨ah, ⟨ck, cat, cn, cax, cac, cbs, cky, cnw, cty, cfo⟩, ao, aid, afl, aco⟩, hq⟩ := ex_
        have hrow := drop_flatMap A17.cells 13 A17.cells_length l _ _ hq
        refine W.region ?_
        refine WL.val run_move rfl rfl ?_
        refine WL.val run_move rfl rfl ?_
        refine WL.val (run_indexAddr Tryz.underlying30 Tryz.sizeOf27 rfl rfl (by omega) (by omega)) rfl rfl ?_
        refine WL.val (run_fieldAddr 1 Tryz.underlying27 rfl Tryz.sizeOf25 rfl rfl) rfl rfl ?_
        refine WL.val (run_fieldAddr 3 Tryz.underlying25 rfl Tryz.sizeOf22 rfl rfl) rfl rfl ?_
        refine WL.val (run_load1 Tryz.isAgg22 rfl (cell_at (p := 1) ((h.readsTo C).elem (i := k) (vs := [.int .i64 ah, .int .i64 ck, .int .i64 cat, .int .i64 cn, .slice cax cbs.length cac, .int .u64 cky, .int .u64 cnw, .int .i64 cty, .bool cfo, .bool ao, .int .u64 aid, .int .u64 afl, .bool aco]) (by omega) hrow) 3 rfl)) rfl rfl ?_
        refine WL.val (run_lenSlice Tryz.underlying22 rfl) rfl rfl ?_
        refine WL.val (run_gtr rfl rfl) rfl rfl ?_
        refine WL.nil ?_
        refine W.condIf rfl (fun c15 => ?_) (fun c15 => ?_)
        · skip
          refine W.seq ?_
          refine W.region ?_
          refine WL.val run_assign rfl rfl ?_
          refine WL.nil ?_
          refine W.ret ?_
          refine bodyQ.r1 (v := .bool _) Tryz.results11 rfl ?_
          -- path FLTT
          exact ⟨false, rfl, fun e => (by cases e), h⟩
        · skip
          refine W.skip ?_
          refine W.region ?_
          refine WL.val run_move rfl rfl ?_
          refine WL.val (run_incN rfl rfl (by omega)) rfl rfl ?_
          refine WL.val run_assign rfl rfl ?_
          refine WL.nil ?_
          -- round, path FLTF
          exact ⟨k + 1, ⟨_, mkE_of ⟨rfl, rfl, trivial⟩, by omega, (by
            intro i a hi ha
            by_cases hik : i = k
            · subst hik; rw [hq] at ha; cases ha; show cbs.length ≤ 600; omega
            · exact hno i a (by omega) ha), h⟩, by show l.length - (k + 1) < l.length - k; omega⟩
      · skip
        refine W.exit ?_
        refine W.seq ?_
        refine W.region ?_
        refine WL.val run_assign rfl rfl ?_
        refine WL.nil ?_
        refine W.ret ?_
        refine bodyQ.r1 (v := .bool _) Tryz.results11 rfl ?_
        -- path FLF
        exact ⟨true, rfl, fun _ => ⟨by omega, fun a ha => by
          have ex_ := List.getElem?_of_mem ha
          obtain ⟨i, hi⟩ := ex_
          exact hno i a (by have := (List.getElem?_eq_some_iff.1 hi).1; omega) hi⟩, h⟩

theorem ureads_law {al : Option Addr} {cl : Nat} {l : List A17} (h : On W0 F w) (C : Gives F (Cells 13 (.slice al l.length cl) l.length (l.flatMap A17.cells))) (hB : ∀ a ∈ l, Gives F (Bytes (.slice a.c.ax a.c.bs.length a.c.ac) a.c.bs)) : Calls Tryz.prog 4 #[.slice al l.length cl] w (Ret fun v w' => v = .bool true ∧ On W0 F w') := by
  refine enter Tryz.func4 rfl Tryz.ntmps4 rfl ?_
  have hbd := (h.reads C).bounds
  obtain ⟨hc1, hc2⟩ := hbd
  have hmx := maxLen_eq
  refine W.seq ?_
  refine W.region ?_
  refine WL.val run_assign rfl rfl ?_
  refine WL.nil ?_
  refine W.seq ?_
  refine W.seq ?_
  refine W.region ?_
  refine WL.eff (eff_call Tryz.call10 (uknown_ok h)) rfl rfl ?_
  rintro _ w ⟨rfl, h⟩
  refine WL.val (run_not rfl) rfl rfl ?_
  refine WL.nil ?_
  refine W.condF rfl ?_
  refine W.skip ?_
  refine W.seq ?_
  refine W.seq ?_
  refine W.region ?_
  refine WL.val run_move rfl rfl ?_
  refine WL.eff (eff_call Tryz.call11 (few17_ok h C)) rfl rfl ?_
  rintro _ w ⟨t, rfl, hfew, h⟩
  refine WL.val (run_not rfl) rfl rfl ?_
  refine WL.nil ?_
  refine W.condB rfl (fun c7 => ?_) (fun c7 => ?_)
  · skip
    refine W.seq ?_
    refine W.region ?_
    refine WL.val run_assign rfl rfl ?_
    refine WL.nil ?_
    refine W.ret ?_
    refine bodyQ.r1 (v := .bool _) Tryz.results4 rfl ?_
    -- path T
    exact ⟨rfl, h⟩
  · skip
    have hfew := hfew (by simpa using c7)
    obtain ⟨hl60, hb600⟩ := hfew
    refine W.skip ?_
    refine W.seq ?_
    refine W.region ?_
    refine WL.eff (eff_call Tryz.call15 (unew_ok (pool := []) h)) rfl rfl ?_
    rintro _ w hv
    rcases hv with ⟨N, hN, h1N, hN2, bu, ms, rfl, h⟩ | ⟨hno, _, _⟩
    rotate_left
    · exact absurd (by decide) hno
    have ob_ : N = 16 := by omega
    obtain rfl := ob_
    refine WL.val run_move rfl rfl ?_
    refine WL.val (run_extract rfl rfl) rfl rfl ?_
    refine WL.val (run_extract rfl rfl) rfl rfl ?_
    refine WL.val run_assign rfl rfl ?_
    refine WL.val run_assign rfl rfl ?_
    refine WL.nil ?_
    refine W.seq ?_
    refine W.region ?_
    refine WL.eff (eff_make (n := 128) (bytes := 1) h (rfl) (rfl) Tryz.underlying22 rfl rfl rfl rfl rfl (by omega) (by omega)) rfl rfl ?_
    rintro _ w ⟨b24, rfl, h⟩
    refine WL.val run_assign rfl rfl ?_
    refine WL.nil ?_
    refine W.seq ?_
    refine W.seq ?_
    refine W.region ?_
    refine WL.val run_assign rfl rfl ?_
    refine WL.nil ?_
    refine W.block ?_
    refine W.loop (fun (k : Nat) env w => k ≤ l.length ∧ ∃ (j : Env) (s : Sp), wfS s ∧ s.N = 16 ∧ env = mkE j [(0, .slice al l.length cl), (3, .pointer (some ⟨bu, 0, none⟩)), (5, .slice (some ⟨b24, 0, none⟩) 128 128), (6, .int .i64 (k : Int))] ∧ On W0 (UnP 84 146 152 bu [] ms (seqU (s)) :: Own 1 (.slice (some ⟨b24, 0, none⟩) 128 128) 128 (bytesV (s.d)) :: F) w) (fun k => l.length - k) (0) ?_ ?_
    · rw [← zerosB] at h
      have h : On W0 (Own 1 (.slice (some ⟨b24, 0, none⟩) 128 128) 128 (bytesV ((newS 16).d)) :: _) w := h
      have h : On W0 (UnP 84 146 152 bu [] ms (seqU (newS 16)) :: _) w := h.fetch (UnP 84 146 152 bu [] ms (newU 16))
      exact ⟨Nat.zero_le _, _, newS 16, newS_wf (by decide) (by decide), rfl, mkE_of ⟨rfl, rfl, rfl, rfl, trivial⟩, h.to⟩
    · clear h
      rintro k env w ⟨hk, j, s, hw, hN, rfl, h⟩
      refine W.seq ?_
      refine W.seq ?_
      refine W.region ?_
      refine WL.val run_move rfl rfl ?_
      refine WL.val run_move rfl rfl ?_
      refine WL.val (run_lenSlice Tryz.underlying30 rfl) rfl rfl ?_
      refine WL.val (run_lss rfl rfl) rfl rfl ?_
      refine WL.nil ?_
      refine W.condIf rfl (fun c17 => ?_) (fun c17 => ?_)
      · skip
        refine W.skip ?_
        refine W.seq ?_
        have hkl : k < l.length := by omega
        have ad_ := (h.readsTo C).addr (by omega)
        obtain ⟨bq, oq, hal⟩ := ad_
        subst hal
        have ex_ : ∃ a, l[k]? = some a := ⟨l[k], by simp⟩
        obtain ⟨⟨ah, ⟨ck, cat, cn, cax, cac, cbs, cky, cnw, cty, cfo⟩, ao, aid, afl, aco⟩, hq⟩ := ex_
        have hrow := drop_flatMap A17.cells 13 A17.cells_length l _ _ hq
        have hbx : Gives F (Bytes (.slice cax cbs.length cac) cbs) := hB _ (List.mem_of_getElem? hq)
        have hb6 : cbs.length ≤ 600 := hb600 _ (List.mem_of_getElem? hq)
        have hbb := (h.readsTo hbx).bounds
        obtain ⟨hbc1, hbc2⟩ := hbb
        refine W.block ?_
        refine W.seq ?_
        refine W.region ?_
        refine WL.val run_move rfl rfl ?_
        refine WL.val run_move rfl rfl ?_
        refine WL.val (run_indexAddr Tryz.underlying30 Tryz.sizeOf27 rfl rfl (by omega) (by omega)) rfl rfl ?_
        refine WL.val (run_fieldAddr 1 Tryz.underlying27 rfl Tryz.sizeOf25 rfl rfl) rfl rfl ?_
        refine WL.val (run_loadN Tryz.isAgg25 Tryz.sizeOf25 rfl rfl (part_at (p := 1) (n := 8) ((h.readsTo C).elem (i := k) (vs := [.int .i64 ah, .int .i64 ck, .int .i64 cat, .int .i64 cn, .slice cax cbs.length cac, .int .u64 cky, .int .u64 cnw, .int .i64 cty, .bool cfo, .bool ao, .int .u64 aid, .int .u64 afl, .bool aco]) (by omega) hrow) rfl)) rfl rfl ?_
        refine WL.eff (eff_alloc h Tryz.zeroValue25 rfl) rfl rfl ?_
        rintro _ w ⟨b7, rfl, h⟩
        refine WL.eff (eff_storeN (vs := [.int .i64 _, .int .i64 _, .int .i64 _, .slice _ _ _, .int .u64 _, .int .u64 _, .int .i64 _, .bool _]) h Tryz.sizeOf25 rfl rfl rfl rfl rfl (fun k _ _ => free0 k)) rfl rfl ?_
        rintro _ w h
        try simp only [splice, List.take_zero, List.take_succ_cons, List.take_nil, List.drop_succ_cons, List.drop_zero, List.drop_nil, List.nil_append, List.cons_append, List.append_nil, List.length_cons, List.length_nil, Nat.zero_add, Nat.reduceAdd] at h
        refine WL.nil ?_
        refine W.seq ?_
        refine W.seq ?_
        refine W.region ?_
        refine WL.val run_move rfl rfl ?_
        refine WL.val run_move rfl rfl ?_
        refine WL.val (run_indexAddr Tryz.underlying30 Tryz.sizeOf27 rfl rfl (by omega) (by omega)) rfl rfl ?_
        refine WL.val (run_fieldAddr 0 Tryz.underlying27 rfl Tryz.sizeOf3 rfl rfl) rfl rfl ?_
        refine WL.val (run_load1 Tryz.isAgg3 rfl ((h.readsTo C).elem (i := k) (vs := [.int .i64 ah, .int .i64 ck, .int .i64 cat, .int .i64 cn, .slice cax cbs.length cac, .int .u64 cky, .int .u64 cnw, .int .i64 cty, .bool cfo, .bool ao, .int .u64 aid, .int .u64 afl, .bool aco]) (by omega) hrow 0 _ rfl)) rfl rfl ?_
        refine WL.dec (run_lss rfl rfl) rfl rfl (fun c41 => ?_) (fun c41 => ?_)
        · skip
          refine WL.val run_move rfl rfl ?_
          refine WL.skip rfl rfl ?_
          refine WL.skip rfl rfl ?_
          refine WL.skip rfl rfl ?_
          refine WL.skip rfl rfl ?_
          refine WL.skip rfl rfl ?_
          refine WL.skip rfl rfl ?_
          refine WL.val (run_pickT rfl) rfl rfl ?_
          refine WL.val run_move rfl rfl ?_
          refine WL.skip rfl rfl ?_
          refine WL.skip rfl rfl ?_
          refine WL.skip rfl rfl ?_
          refine WL.val (run_pickT rfl) rfl rfl ?_
          refine WL.val run_move rfl rfl ?_
          refine WL.skip rfl rfl ?_
          refine WL.skip rfl rfl ?_
          refine WL.skip rfl rfl ?_
          refine WL.val (run_pickT rfl) rfl rfl ?_
          refine WL.nil ?_
          refine W.condT rfl ?_
          refine W.exit ?_
          refine W.region ?_
          refine WL.val run_move rfl rfl ?_
          refine WL.val (run_add rfl rfl (by omega) (by omega)) rfl rfl ?_
          refine WL.val run_assign rfl rfl ?_
          refine WL.nil ?_
          -- round, path FLTT
          exact ⟨k + 1, ⟨by omega, _, s, hw, hN, mkE_of ⟨rfl, rfl, rfl, rfl, trivial⟩, h.to⟩, by show l.length - (k + 1) < l.length - k; omega⟩
        · skip
          refine WL.val run_move rfl rfl ?_
          refine WL.val run_move rfl rfl ?_
          refine WL.val run_move rfl rfl ?_
          refine WL.val (run_indexAddr Tryz.underlying30 Tryz.sizeOf27 rfl rfl (by omega) (by omega)) rfl rfl ?_
          refine WL.val (run_fieldAddr 0 Tryz.underlying27 rfl Tryz.sizeOf3 rfl rfl) rfl rfl ?_
          refine WL.val (run_load1 Tryz.isAgg3 rfl ((h.readsTo C).elem (i := k) (vs := [.int .i64 ah, .int .i64 ck, .int .i64 cat, .int .i64 cn, .slice cax cbs.length cac, .int .u64 cky, .int .u64 cnw, .int .i64 cty, .bool cfo, .bool ao, .int .u64 aid, .int .u64 afl, .bool aco]) (by omega) hrow 0 _ rfl)) rfl rfl ?_
          refine WL.dec (run_gtr rfl rfl) rfl rfl (fun c48 => ?_) (fun c48 => ?_)
          · skip
            refine WL.val (run_pickF rfl) rfl rfl ?_
            refine WL.val run_move rfl rfl ?_
            refine WL.skip rfl rfl ?_
            refine WL.skip rfl rfl ?_
            refine WL.skip rfl rfl ?_
            refine WL.val (run_pickT rfl) rfl rfl ?_
            refine WL.val run_move rfl rfl ?_
            refine WL.skip rfl rfl ?_
            refine WL.skip rfl rfl ?_
            refine WL.skip rfl rfl ?_
            refine WL.val (run_pickT rfl) rfl rfl ?_
            refine WL.nil ?_
            refine W.condT rfl ?_
            refine W.exit ?_
            refine W.region ?_
            refine WL.val run_move rfl rfl ?_
            refine WL.val (run_add rfl rfl (by omega) (by omega)) rfl rfl ?_
            refine WL.val run_assign rfl rfl ?_
            refine WL.nil ?_
            -- round, path FLTFT
            exact ⟨k + 1, ⟨by omega, _, s, hw, hN, mkE_of ⟨rfl, rfl, rfl, rfl, trivial⟩, h.to⟩, by show l.length - (k + 1) < l.length - k; omega⟩
          · skip
            refine WL.val (run_pickF rfl) rfl rfl ?_
            refine WL.val run_move rfl rfl ?_
            refine WL.val (run_fieldAddr 0 Tryz.underlying25 rfl Tryz.sizeOf3 rfl rfl) rfl rfl ?_
            refine WL.val (run_load1 Tryz.isAgg3 rfl (h.cellB rfl)) rfl rfl ?_
            refine WL.dec (run_lss rfl rfl) rfl rfl (fun c53 => ?_) (fun c53 => ?_)
            · skip
              refine WL.val (run_pickF rfl) rfl rfl ?_
              refine WL.val run_move rfl rfl ?_
              refine WL.skip rfl rfl ?_
              refine WL.skip rfl rfl ?_
              refine WL.skip rfl rfl ?_
              refine WL.val (run_pickT rfl) rfl rfl ?_
              refine WL.nil ?_
              refine W.condT rfl ?_
              refine W.exit ?_
              refine W.region ?_
              refine WL.val run_move rfl rfl ?_
              refine WL.val (run_add rfl rfl (by omega) (by omega)) rfl rfl ?_
              refine WL.val run_assign rfl rfl ?_
              refine WL.nil ?_
              -- round, path FLTFFT
              exact ⟨k + 1, ⟨by omega, _, s, hw, hN, mkE_of ⟨rfl, rfl, rfl, rfl, trivial⟩, h.to⟩, by show l.length - (k + 1) < l.length - k; omega⟩
            · skip
              refine WL.val (run_pickF rfl) rfl rfl ?_
              refine WL.val run_move rfl rfl ?_
              refine WL.val (run_fieldAddr 0 Tryz.underlying25 rfl Tryz.sizeOf3 rfl rfl) rfl rfl ?_
              refine WL.val (run_load1 Tryz.isAgg3 rfl (h.cellB rfl)) rfl rfl ?_
              refine WL.val (run_gtr rfl rfl) rfl rfl ?_
              refine WL.val (run_pickF rfl) rfl rfl ?_
              refine WL.nil ?_
              refine W.condIf rfl (fun c23 => ?_) (fun c23 => ?_)
              · skip
                refine W.exit ?_
                refine W.region ?_
                refine WL.val run_move rfl rfl ?_
                refine WL.val (run_add rfl rfl (by omega) (by omega)) rfl rfl ?_
                refine WL.val run_assign rfl rfl ?_
                refine WL.nil ?_
                -- round, path FLTFFFT
                exact ⟨k + 1, ⟨by omega, _, s, hw, hN, mkE_of ⟨rfl, rfl, rfl, rfl, trivial⟩, h.to⟩, by show l.length - (k + 1) < l.length - k; omega⟩
              · skip
                refine W.skip ?_
                refine W.cut (fun env w => ∃ (j : Env) (b7 b8 : Nat) (s' : Sp) (r : Rp) (ad : Option Addr) (cd : Nat), runM s (⟨ck, cat, cn, cbs, cky, cnw, cty, cfo⟩ : Cm) = (s', r) ∧ env = mkE j [(0, .slice (some ⟨bq, oq, none⟩) l.length cl), (3, .pointer (some ⟨bu, 0, none⟩)), (5, .slice (some ⟨b24, 0, none⟩) 128 128), (6, .int .i64 (k : Int)), (7, .pointer (some ⟨b7, 0, none⟩)), (8, .pointer (some ⟨b8, 0, none⟩))] ∧ On W0 (OwnB (.slice ad (r).data.length cd) (r).data :: UnP 84 146 152 bu [] ms (seqU (s')) :: blk b8 [.int .i64 (r).st, .int .i64 (r).key, .int .i64 (r).code, .slice ad (r).data.length cd, .int .i64 (r).info] 36 :: blk b7 [.int .i64 ck, .int .i64 cat, .int .i64 cn, .slice cax cbs.length cac, .int .u64 cky, .int .u64 cnw, .int .i64 cty, .bool cfo] 25 :: Own 1 (.slice (some ⟨b24, 0, none⟩) 128 128) 128 (bytesV (s.d)) :: F) w) ?_ ?_
                · skip
                  have ei := Int.eq_ofNat_of_zero_le (show 0 ≤ ah by omega)
                  obtain ⟨i, hi0⟩ := ei
                  have hi : i < 8 := by omega
                  have er_ : ∃ s' r, runM s (⟨ck, cat, cn, cbs, cky, cnw, cty, cfo⟩ : Cm) = (s', r) := ⟨_, _, rfl⟩
                  obtain ⟨s', r, hrun⟩ := er_
                  have hdo := seq_do (s := s) (i := i) (c := (⟨ck, cat, cn, cbs, cky, cnw, cty, cfo⟩ : Cm)) hi (show 2 ≤ ck by omega) (show ck ≤ 6 by omega) hrun
                  rw [← hi0] at hdo
                  refine W.draw Tryz.follows h (fun w h => ?_)
                  refine WT.pure 0 rfl (by kernel_rfl) (fun w' => run_move) rfl rfl ?_
                  refine WT.pure 1 rfl (by kernel_rfl) (fun w' => run_move) rfl rfl ?_
                  refine WT.pure 2 rfl (by kernel_rfl) (fun w' => run_move) rfl rfl ?_
                  refine WT.pure 3 rfl (by kernel_rfl) (fun w' => (run_indexAddr Tryz.underlying30 Tryz.sizeOf27 rfl rfl (by omega) (by omega))) rfl rfl ?_
                  refine WT.pure 4 rfl (by kernel_rfl) (fun w' => (run_fieldAddr 0 Tryz.underlying27 rfl Tryz.sizeOf3 rfl rfl)) rfl rfl ?_
                  refine WT.load1 5 rfl (by kernel_rfl) Tryz.isAgg3 rfl ((h.readsTo C).elem (i := k) (vs := [.int .i64 ah, .int .i64 ck, .int .i64 cat, .int .i64 cn, .slice cax cbs.length cac, .int .u64 cky, .int .u64 cnw, .int .i64 cty, .bool cfo, .bool ao, .int .u64 aid, .int .u64 afl, .bool aco]) (by omega) hrow 0 _ rfl) rfl rfl ?_
                  refine WT.loadN (vs := [.int .i64 _, .int .i64 _, .int .i64 _, .slice _ _ _, .int .u64 _, .int .u64 _, .int .i64 _, .bool _]) 6 rfl (by kernel_rfl) Tryz.isAgg25 Tryz.sizeOf25 rfl rfl (h.rowV (n := 8) rfl) rfl rfl ?_
                  -- SEVERAL MAY COME UP: [(7, ' (*gemel/lu.Unit).Do(t60, t65, t66)'), (8, 'alloc api.Reply')]
                  refine WT.two 7 8 (by kernel_rfl) ?_ ?_
                  · skip
                    refine WT.opOf 7 [false, false] rfl (by kernel_rfl) (eff_call Tryz.call13 (do_ok (hh := ah) (kind := ck) (at_ := cat) (n := cn) (data := cbs) (key := cky) (new := cnw) (typ := cty) (force := cfo) (u := seqU s) (by omega) (seq_ok s).2 (seq_ok s).1 (h.fetch (UnP 84 146 152 bu [] ms (seqU (s)))) (Gives.to hbx) (by omega))) rfl rfl ?_
                    rintro _ w ⟨u1_, r1_, dv, he, rfl, h⟩
                    have he := he.symm.trans hdo
                    simp only [Prod.mk.injEq] at he
                    obtain ⟨hu_, hr_⟩ := he
                    subst hu_
                    subst hr_
                    have of_ := Own.form h
                    obtain ⟨ad, cd, hdv, _⟩ := of_
                    subst hdv
                    refine ⟨trivial, ?_⟩
                    refine WT.eff 8 [] rfl (by kernel_rfl) (by kernel_rfl) (eff_alloc h Tryz.zeroValue36 rfl) rfl rfl ?_
                    rintro _ w ⟨b8, rfl, h⟩
                    refine ⟨trivial, ?_⟩
                    refine WT.eff 9 [] rfl (by kernel_rfl) (by kernel_rfl) (eff_storeN (vs := [.int .i64 _, .int .i64 _, .int .i64 _, .slice _ _ _, .int .i64 _]) h Tryz.sizeOf36 rfl rfl rfl rfl rfl (fun k _ _ => free0 k)) rfl rfl ?_
                    rintro _ w h
                    try simp only [splice, List.take_zero, List.take_succ_cons, List.take_nil, List.drop_succ_cons, List.drop_zero, List.drop_nil, List.nil_append, List.cons_append, List.append_nil, List.length_cons, List.length_nil, Nat.zero_add, Nat.reduceAdd] at h
                    refine ⟨trivial, ?_⟩
                    refine WT.done (by kernel_rfl) ?_
                    -- to the cut, path FLTFFFFa
                    exact ⟨_, b7, b8, _, _, ad, cd, hrun, mkE_of ⟨rfl, rfl, rfl, rfl, rfl, rfl, trivial⟩, h.to⟩
                  · skip
                    refine WT.opOf 8 [true, true] rfl (by kernel_rfl) (eff_alloc h Tryz.zeroValue36 rfl) rfl rfl ?_
                    rintro _ w ⟨b8, rfl, h⟩
                    refine ⟨⟨(h.rowV (n := 8) rfl), (h.readsTo C).elem (i := k) (vs := [.int .i64 ah, .int .i64 ck, .int .i64 cat, .int .i64 cn, .slice cax cbs.length cac, .int .u64 cky, .int .u64 cnw, .int .i64 cty, .bool cfo, .bool ao, .int .u64 aid, .int .u64 afl, .bool aco]) (by omega) hrow 0 _ rfl, trivial⟩, ?_⟩
                    refine WT.eff 7 [false, false] rfl (by kernel_rfl) (by kernel_rfl) (eff_call Tryz.call13 (do_ok (hh := ah) (kind := ck) (at_ := cat) (n := cn) (data := cbs) (key := cky) (new := cnw) (typ := cty) (force := cfo) (u := seqU s) (by omega) (seq_ok s).2 (seq_ok s).1 (h.fetch (UnP 84 146 152 bu [] ms (seqU (s)))) (Gives.to hbx) (by omega))) rfl rfl ?_
                    rintro _ w ⟨u1_, r1_, dv, he, rfl, h⟩
                    have he := he.symm.trans hdo
                    simp only [Prod.mk.injEq] at he
                    obtain ⟨hu_, hr_⟩ := he
                    subst hu_
                    subst hr_
                    have of_ := Own.form h
                    obtain ⟨ad, cd, hdv, _⟩ := of_
                    subst hdv
                    refine ⟨trivial, ?_⟩
                    refine WT.eff 9 [] rfl (by kernel_rfl) (by kernel_rfl) (eff_storeN (vs := [.int .i64 _, .int .i64 _, .int .i64 _, .slice _ _ _, .int .i64 _]) h Tryz.sizeOf36 rfl rfl rfl rfl rfl (fun k _ _ => free0 k)) rfl rfl ?_
                    rintro _ w h
                    try simp only [splice, List.take_zero, List.take_succ_cons, List.take_nil, List.drop_succ_cons, List.drop_zero, List.drop_nil, List.nil_append, List.cons_append, List.append_nil, List.length_cons, List.length_nil, Nat.zero_add, Nat.reduceAdd] at h
                    refine ⟨trivial, ?_⟩
                    refine WT.done (by kernel_rfl) ?_
                    -- to the cut, path FLTFFFFb
                    exact ⟨_, b7, b8, _, _, ad, cd, hrun, mkE_of ⟨rfl, rfl, rfl, rfl, rfl, rfl, trivial⟩, h.to⟩
                · clear h
                  rintro env w ⟨j, b7, b8, s', r, ad, cd, hrun, rfl, h⟩
                  refine W.cut (fun env w => ∃ (j : Env) (bi : Bool), bi = decide (inS s cat cn) ∧ env = mkE j [(0, .slice (some ⟨bq, oq, none⟩) l.length cl), (3, .pointer (some ⟨bu, 0, none⟩)), (5, .slice (some ⟨b24, 0, none⟩) 128 128), (6, .int .i64 (k : Int)), (7, .pointer (some ⟨b7, 0, none⟩)), (8, .pointer (some ⟨b8, 0, none⟩)), (9, .bool bi)] ∧ On W0 (OwnB (.slice ad (r).data.length cd) (r).data :: UnP 84 146 152 bu [] ms (seqU (s')) :: blk b8 [.int .i64 (r).st, .int .i64 (r).key, .int .i64 (r).code, .slice ad (r).data.length cd, .int .i64 (r).info] 36 :: blk b7 [.int .i64 ck, .int .i64 cat, .int .i64 cn, .slice cax cbs.length cac, .int .u64 cky, .int .u64 cnw, .int .i64 cty, .bool cfo] 25 :: Own 1 (.slice (some ⟨b24, 0, none⟩) 128 128) 128 (bytesV (s.d)) :: F) w) ?_ ?_
                  · skip
                    refine W.region ?_
                    refine WL.val (run_fieldAddr 1 Tryz.underlying25 rfl Tryz.sizeOf3 rfl rfl) rfl rfl ?_
                    refine WL.val (run_load1 Tryz.isAgg3 rfl (h.cellB rfl)) rfl rfl ?_
                    refine WL.dec (run_geq rfl rfl) rfl rfl (fun c70 => ?_) (fun c70 => ?_)
                    · skip
                      refine WL.val run_move rfl rfl ?_
                      refine WL.val (run_fieldAddr 2 Tryz.underlying25 rfl Tryz.sizeOf3 rfl rfl) rfl rfl ?_
                      refine WL.val (run_load1 Tryz.isAgg3 rfl (h.cellB rfl)) rfl rfl ?_
                      refine WL.dec (run_geq rfl rfl) rfl rfl (fun c74 => ?_) (fun c74 => ?_)
                      · skip
                        refine WL.val (run_pickT rfl) rfl rfl ?_
                        refine WL.val run_move rfl rfl ?_
                        refine WL.val (run_fieldAddr 2 Tryz.underlying25 rfl Tryz.sizeOf3 rfl rfl) rfl rfl ?_
                        refine WL.val (run_load1 Tryz.isAgg3 rfl (h.cellB rfl)) rfl rfl ?_
                        refine WL.dec (run_leq rfl rfl) rfl rfl (fun c79 => ?_) (fun c79 => ?_)
                        · skip
                          refine WL.val (run_pickT rfl) rfl rfl ?_
                          refine WL.val run_move rfl rfl ?_
                          refine WL.val (run_fieldAddr 1 Tryz.underlying25 rfl Tryz.sizeOf3 rfl rfl) rfl rfl ?_
                          refine WL.val (run_load1 Tryz.isAgg3 rfl (h.cellB rfl)) rfl rfl ?_
                          refine WL.dec (run_leq rfl rfl) rfl rfl (fun c84 => ?_) (fun c84 => ?_)
                          · skip
                            refine WL.val (run_pickT rfl) rfl rfl ?_
                            refine WL.val run_move rfl rfl ?_
                            refine WL.val (run_fieldAddr 2 Tryz.underlying25 rfl Tryz.sizeOf3 rfl rfl) rfl rfl ?_
                            refine WL.val (run_load1 Tryz.isAgg3 rfl (h.cellB rfl)) rfl rfl ?_
                            refine WL.val (run_fieldAddr 1 Tryz.underlying25 rfl Tryz.sizeOf3 rfl rfl) rfl rfl ?_
                            refine WL.val (run_load1 Tryz.isAgg3 rfl (h.cellB rfl)) rfl rfl ?_
                            refine WL.val (run_sub rfl rfl (by omega) (by omega)) rfl rfl ?_
                            refine WL.val (run_leq rfl rfl) rfl rfl ?_
                            refine WL.val (run_pickT rfl) rfl rfl ?_
                            refine WL.val run_assign rfl rfl ?_
                            refine WL.nil ?_
                            -- to the cut, path FLTFFFFTTTT
                            exact ⟨_, decide (cn ≤ 16 - cat), decide_eq_decide.2 ⟨fun h5 => (show inS s cat cn from ⟨by omega, by omega, by omega, by omega, by omega⟩), fun hi => (by unfold inS at hi; omega)⟩, mkE_of ⟨rfl, rfl, rfl, rfl, rfl, rfl, rfl, trivial⟩, h⟩
                          · skip
                            refine WL.val (run_pickT rfl) rfl rfl ?_
                            refine WL.val run_move rfl rfl ?_
                            refine WL.skip rfl rfl ?_
                            refine WL.skip rfl rfl ?_
                            refine WL.skip rfl rfl ?_
                            refine WL.skip rfl rfl ?_
                            refine WL.skip rfl rfl ?_
                            refine WL.skip rfl rfl ?_
                            refine WL.val (run_pickF rfl) rfl rfl ?_
                            refine WL.val run_assign rfl rfl ?_
                            refine WL.nil ?_
                            -- to the cut, path FLTFFFFTTTF
                            exact ⟨_, false, (decide_eq_false (show ¬ inS s cat cn from fun hi => by unfold inS at hi; omega)).symm, mkE_of ⟨rfl, rfl, rfl, rfl, rfl, rfl, rfl, trivial⟩, h⟩
                        · skip
                          refine WL.val (run_pickT rfl) rfl rfl ?_
                          refine WL.val run_move rfl rfl ?_
                          refine WL.skip rfl rfl ?_
                          refine WL.skip rfl rfl ?_
                          refine WL.skip rfl rfl ?_
                          refine WL.val (run_pickF rfl) rfl rfl ?_
                          refine WL.val run_move rfl rfl ?_
                          refine WL.skip rfl rfl ?_
                          refine WL.skip rfl rfl ?_
                          refine WL.skip rfl rfl ?_
                          refine WL.skip rfl rfl ?_
                          refine WL.skip rfl rfl ?_
                          refine WL.skip rfl rfl ?_
                          refine WL.val (run_pickF rfl) rfl rfl ?_
                          refine WL.val run_assign rfl rfl ?_
                          refine WL.nil ?_
                          -- to the cut, path FLTFFFFTTF
                          exact ⟨_, false, (decide_eq_false (show ¬ inS s cat cn from fun hi => by unfold inS at hi; omega)).symm, mkE_of ⟨rfl, rfl, rfl, rfl, rfl, rfl, rfl, trivial⟩, h⟩
                      · skip
                        refine WL.val (run_pickT rfl) rfl rfl ?_
                        refine WL.val run_move rfl rfl ?_
                        refine WL.skip rfl rfl ?_
                        refine WL.skip rfl rfl ?_
                        refine WL.skip rfl rfl ?_
                        refine WL.val (run_pickF rfl) rfl rfl ?_
                        refine WL.val run_move rfl rfl ?_
                        refine WL.skip rfl rfl ?_
                        refine WL.skip rfl rfl ?_
                        refine WL.skip rfl rfl ?_
                        refine WL.val (run_pickF rfl) rfl rfl ?_
                        refine WL.val run_move rfl rfl ?_
                        refine WL.skip rfl rfl ?_
                        refine WL.skip rfl rfl ?_
                        refine WL.skip rfl rfl ?_
                        refine WL.skip rfl rfl ?_
                        refine WL.skip rfl rfl ?_
                        refine WL.skip rfl rfl ?_
                        refine WL.val (run_pickF rfl) rfl rfl ?_
                        refine WL.val run_assign rfl rfl ?_
                        refine WL.nil ?_
                        -- to the cut, path FLTFFFFTF
                        exact ⟨_, false, (decide_eq_false (show ¬ inS s cat cn from fun hi => by unfold inS at hi; omega)).symm, mkE_of ⟨rfl, rfl, rfl, rfl, rfl, rfl, rfl, trivial⟩, h⟩
                    · skip
                      refine WL.val run_move rfl rfl ?_
                      refine WL.skip rfl rfl ?_
                      refine WL.skip rfl rfl ?_
                      refine WL.skip rfl rfl ?_
                      refine WL.val (run_pickF rfl) rfl rfl ?_
                      refine WL.val run_move rfl rfl ?_
                      refine WL.skip rfl rfl ?_
                      refine WL.skip rfl rfl ?_
                      refine WL.skip rfl rfl ?_
                      refine WL.val (run_pickF rfl) rfl rfl ?_
                      refine WL.val run_move rfl rfl ?_
                      refine WL.skip rfl rfl ?_
                      refine WL.skip rfl rfl ?_
                      refine WL.skip rfl rfl ?_
                      refine WL.val (run_pickF rfl) rfl rfl ?_
                      refine WL.val run_move rfl rfl ?_
                      refine WL.skip rfl rfl ?_
                      refine WL.skip rfl rfl ?_
                      refine WL.skip rfl rfl ?_
                      refine WL.skip rfl rfl ?_
                      refine WL.skip rfl rfl ?_
                      refine WL.skip rfl rfl ?_
                      refine WL.val (run_pickF rfl) rfl rfl ?_
                      refine WL.val run_assign rfl rfl ?_
                      refine WL.nil ?_
                      -- to the cut, path FLTFFFFF
                      exact ⟨_, false, (decide_eq_false (show ¬ inS s cat cn from fun hi => by unfold inS at hi; omega)).symm, mkE_of ⟨rfl, rfl, rfl, rfl, rfl, rfl, rfl, trivial⟩, h⟩
                  · clear h
                    rintro env w ⟨j, bi, hbi, rfl, h⟩
                    refine W.seq ?_
                    refine W.region ?_
                    refine WL.eff (eff_make (n := 0) (bytes := 1) h (rfl) (rfl) Tryz.underlying22 rfl rfl rfl rfl rfl (by omega) (by omega)) rfl rfl ?_
                    rintro _ w ⟨b94, rfl, h⟩
                    refine WL.val run_assign rfl rfl ?_
                    refine WL.nil ?_
                    refine W.cut (fun env w => ∃ (j : Env) (s2_ : Sp) (r2 : Rp) (want : List UInt8) (aw : Option Addr) (cw : Nat), (r2.st = 0 → r2.data = want) ∧ wfS s2_ ∧ s2_.N = 16 ∧ env = mkE j [(0, .slice (some ⟨bq, oq, none⟩) l.length cl), (3, .pointer (some ⟨bu, 0, none⟩)), (5, .slice (some ⟨b24, 0, none⟩) 128 128), (6, .int .i64 (k : Int)), (8, .pointer (some ⟨b8, 0, none⟩)), (10, .slice aw want.length cw)] ∧ On W0 (OwnB (.slice aw want.length cw) want :: OwnB (.slice ad (r2).data.length cd) (r2).data :: UnP 84 146 152 bu [] ms (seqU (s2_)) :: blk b8 [.int .i64 (r2).st, .int .i64 (r2).key, .int .i64 (r2).code, .slice ad (r2).data.length cd, .int .i64 (r2).info] 36 :: Own 1 (.slice (some ⟨b24, 0, none⟩) 128 128) 128 (bytesV (s2_.d)) :: F) w) ?_ ?_
                    · skip
                      have h : On W0 (OwnB (.slice (some ⟨b94, 0, none⟩) 0 0) ([] : List UInt8) :: _) w := h
                      refine W.block ?_
                      refine W.seq ?_
                      refine W.region ?_
                      refine WL.val run_move rfl rfl ?_
                      refine WL.val (run_not rfl) rfl rfl ?_
                      refine WL.val run_assign rfl rfl ?_
                      refine WL.nil ?_
                      refine W.condB rfl (fun c31 => ?_) (fun c31 => ?_)
                      · skip
                        have hin : ¬ inS s cat cn := by
                          intro hin
                          rw [hbi, decide_eq_true hin] at c31
                          cases c31
                        have he_ : (s, (plain 2 5 8448 : Rp)) = (s', r) := (run_out (c := (⟨ck, cat, cn, cbs, cky, cnw, cty, cfo⟩ : Cm)) hin).symm.trans hrun
                        simp only [Prod.mk.injEq] at he_
                        obtain ⟨hs_, hr_⟩ := he_
                        subst hs_
                        subst hr_
                        refine W.seq ?_
                        refine W.seq ?_
                        refine W.region ?_
                        refine WL.val (run_fieldAddr 2 Tryz.underlying36 rfl Tryz.sizeOf3 rfl rfl) rfl rfl ?_
                        refine WL.val (run_load1 Tryz.isAgg3 rfl (h.cellB rfl)) rfl rfl ?_
                        refine WL.val (run_neqF rfl rfl (rfl)) rfl rfl ?_
                        refine WL.nil ?_
                        refine W.condF rfl ?_
                        refine W.skip ?_
                        refine W.exit ?_
                        refine W.region ?_
                        refine WL.val run_move rfl rfl ?_
                        refine WL.val (run_add rfl rfl (by omega) (by omega)) rfl rfl ?_
                        refine WL.val run_assign rfl rfl ?_
                        refine WL.nil ?_
                        -- round, path FLTFFFFT
                        exact ⟨k + 1, ⟨by omega, _, s, hw, hN, mkE_of ⟨rfl, rfl, rfl, rfl, trivial⟩, h.to⟩, by show l.length - (k + 1) < l.length - k; omega⟩
                      · skip
                        have hin : inS s cat cn := by
                          rw [hbi] at c31
                          simpa using c31
                        have hin0 := hin
                        unfold inS at hin0
                        obtain ⟨hi1, hi2, hi3, hi4, hi5⟩ := hin0
                        have ep := Int.eq_ofNat_of_zero_le hi3
                        obtain ⟨p, hp0⟩ := ep
                        have eq_ := Int.eq_ofNat_of_zero_le hi1
                        obtain ⟨q, hq0⟩ := eq_
                        subst hp0
                        subst hq0
                        have hpq : p + q ≤ 16 := by omega
                        have hq32 : q ≤ 32 := by omega
                        have hd128 : s.d.length = 128 := by rw [hw.1, hN]
                        have hwf2 : wfS s' ∧ s'.N = 16 := by
                          have hx := seq_wf (s := s) (c := (⟨ck, ((p : Nat) : Int), ((q : Nat) : Int), cbs, cky, cnw, cty, cfo⟩ : Cm)) hw
                          rw [hrun, hN] at hx
                          exact hx
                        refine W.seq ?_
                        refine W.region ?_
                        refine WL.val (run_fieldAddr 0 Tryz.underlying25 rfl Tryz.sizeOf3 rfl rfl) rfl rfl ?_
                        refine WL.val (run_load1 Tryz.isAgg3 rfl (h.cellB rfl)) rfl rfl ?_
                        refine WL.dec (run_eql rfl rfl) rfl rfl (fun c104 => ?_) (fun c104 => ?_)
                        · skip
                          refine WL.val run_move rfl rfl ?_
                          refine WL.val (run_fieldAddr 3 Tryz.underlying25 rfl Tryz.sizeOf22 rfl rfl) rfl rfl ?_
                          refine WL.val (run_load1 Tryz.isAgg22 rfl (h.cellB rfl)) rfl rfl ?_
                          refine WL.val (run_lenSlice Tryz.underlying22 rfl) rfl rfl ?_
                          refine WL.val (run_fieldAddr 2 Tryz.underlying25 rfl Tryz.sizeOf3 rfl rfl) rfl rfl ?_
                          refine WL.val (run_load1 Tryz.isAgg3 rfl (h.cellB rfl)) rfl rfl ?_
                          refine WL.val (run_mulN (m := 8) (n := q) rfl rfl (by omega)) rfl rfl ?_
                          refine WL.val (run_eql rfl rfl) rfl rfl ?_
                          refine WL.val (run_pickT rfl) rfl rfl ?_
                          refine WL.val run_assign rfl rfl ?_
                          refine WL.nil ?_
                          refine W.condIf rfl (fun c39 => ?_) (fun c39 => ?_)
                          · skip
                            refine W.seq ?_
                            have he_ : (writeS s p cbs, (plain 0 0 0 : Rp)) = (s', r) := (run_write_yes (c := (⟨ck, ((p : Nat) : Int), ((q : Nat) : Int), cbs, cky, cnw, cty, cfo⟩ : Cm)) (show inS s (⟨ck, ((p : Nat) : Int), ((q : Nat) : Int), cbs, cky, cnw, cty, cfo⟩ : Cm).at_ (⟨ck, ((p : Nat) : Int), ((q : Nat) : Int), cbs, cky, cnw, cty, cfo⟩ : Cm).n from hin) c104 (by show (cbs.length : Int) = (q : Int) * 8; omega)).symm.trans hrun
                            simp only [Prod.mk.injEq] at he_
                            obtain ⟨hs_, hr_⟩ := he_
                            subst hs_
                            subst hr_
                            have hcl : cbs.length = 8 * q := by omega
                            refine W.region ?_
                            refine WL.val run_assign rfl rfl ?_
                            refine WL.nil ?_
                            refine W.block ?_
                            refine W.loop (fun (m : Nat) env w => m ≤ cbs.length ∧ ∃ (j : Env), env = mkE j [(0, .slice (some ⟨bq, oq, none⟩) l.length cl), (3, .pointer (some ⟨bu, 0, none⟩)), (5, .slice (some ⟨b24, 0, none⟩) 128 128), (6, .int .i64 (k : Int)), (7, .pointer (some ⟨b7, 0, none⟩)), (8, .pointer (some ⟨b8, 0, none⟩)), (10, .slice (some ⟨b94, 0, none⟩) 0 0), (11, .int .i64 (m : Int))] ∧ On W0 (OwnB (.slice (some ⟨b94, 0, none⟩) 0 0) ([] : List UInt8) :: OwnB (.slice ad (plain 0 0 0).data.length cd) (plain 0 0 0).data :: UnP 84 146 152 bu [] ms (seqU (writeS s p cbs)) :: blk b8 [.int .i64 (plain 0 0 0).st, .int .i64 (plain 0 0 0).key, .int .i64 (plain 0 0 0).code, .slice ad (plain 0 0 0).data.length cd, .int .i64 (plain 0 0 0).info] 36 :: blk b7 [.int .i64 ck, .int .i64 ((p : Nat) : Int), .int .i64 ((q : Nat) : Int), .slice cax cbs.length cac, .int .u64 cky, .int .u64 cnw, .int .i64 cty, .bool cfo] 25 :: Own 1 (.slice (some ⟨b24, 0, none⟩) 128 128) 128 (bytesV (over s.d (8 * p) (cbs.take m))) :: F) w) (fun m => cbs.length - m) (0) ?_ ?_
                            · have e0 : s.d = over s.d (8 * p) (cbs.take 0) := by first | (rw [List.take_zero]; exact (over_nil _ _).symm) | (rw [List.replicate_zero]; exact (over_nil _ _).symm)
                              have h := h.fetch (Own 1 (.slice (some ⟨b24, 0, none⟩) 128 128) 128 (bytesV (s.d)))
                              rw [congrArg bytesV e0] at h
                              exact ⟨Nat.zero_le _, _, mkE_of ⟨rfl, rfl, rfl, rfl, rfl, rfl, rfl, rfl, trivial⟩, h.to⟩
                            · clear h
                              rintro m env w ⟨hm, j, rfl, h⟩
                              refine W.seq ?_
                              refine W.seq ?_
                              refine W.region ?_
                              refine WL.val run_move rfl rfl ?_
                              refine WL.val (run_fieldAddr 3 Tryz.underlying25 rfl Tryz.sizeOf22 rfl rfl) rfl rfl ?_
                              refine WL.val (run_load1 Tryz.isAgg22 rfl (h.cellB rfl)) rfl rfl ?_
                              refine WL.val (run_lenSlice Tryz.underlying22 rfl) rfl rfl ?_
                              refine WL.val (run_lss rfl rfl) rfl rfl ?_
                              refine WL.nil ?_
                              refine W.condIf rfl (fun c44 => ?_) (fun c44 => ?_)
                              · skip
                                refine W.skip ?_
                                refine W.seq ?_
                                have adx := (h.readsTo hbx).addr (by omega)
                                obtain ⟨bx, ox, hax⟩ := adx
                                subst hax
                                have hxe : cbs[m]? = some (cbs[m]'(by omega)) := List.getElem?_eq_getElem _
                                have hxr := bytes_row hxe
                                refine W.block ?_
                                refine W.draw Tryz.follows h (fun w h => ?_)
                                refine WT.pure 0 rfl (by kernel_rfl) (fun w' => run_move) rfl rfl ?_
                                refine WT.pure 1 rfl (by kernel_rfl) (fun w' => (run_fieldAddr 1 Tryz.underlying25 rfl Tryz.sizeOf3 rfl rfl)) rfl rfl ?_
                                refine WT.load1 2 rfl (by kernel_rfl) Tryz.isAgg3 rfl (h.cellB rfl) rfl rfl ?_
                                refine WT.pure 3 rfl (by kernel_rfl) (fun w' => (run_mulN (m := 8) (n := p) rfl rfl (by omega))) rfl rfl ?_
                                refine WT.pure 4 rfl (by kernel_rfl) (fun w' => run_move) rfl rfl ?_
                                refine WT.pure 5 rfl (by kernel_rfl) (fun w' => (run_addN (m := 8 * p) (n := m) rfl rfl (by omega))) rfl rfl ?_
                                refine WT.pure 6 rfl (by kernel_rfl) (fun w' => (run_fieldAddr 3 Tryz.underlying25 rfl Tryz.sizeOf22 rfl rfl)) rfl rfl ?_
                                refine WT.load1 7 rfl (by kernel_rfl) Tryz.isAgg22 rfl (h.cellB rfl) rfl rfl ?_
                                refine WT.pure 8 rfl (by kernel_rfl) (fun w' => run_move) rfl rfl ?_
                                refine WT.pure 9 rfl (by kernel_rfl) (fun w' => (run_indexAddr Tryz.underlying22 Tryz.sizeOf5 rfl rfl (by omega) (by omega))) rfl rfl ?_
                                refine WT.load1 10 rfl (by kernel_rfl) Tryz.isAgg5 rfl ((h.readsTo hbx).elem (i := m) (vs := [.int .u8 ((cbs[m]'(by omega)).toNat : Int)]) (by omega) hxr 0 _ rfl) rfl rfl ?_
                                refine WT.pure 11 rfl (by kernel_rfl) (fun w' => (run_indexAddr Tryz.underlying22 Tryz.sizeOf5 rfl rfl (by omega) (by omega))) rfl rfl ?_
                                refine WT.eff 12 [false, false, false] rfl (by kernel_rfl) (by kernel_rfl) (eff_storeOwn (size := 1) (k := (8 * p + m) * 1) (v := .int .u8 ((cbs[m]'(by omega)).toNat : Int)) (h.own (.slice (some ⟨b24, 0, none⟩) 128 128)) Tryz.sizeOf5 rfl rfl rfl (by omega)) rfl rfl ?_
                                rintro _ w h
                                rw [Nat.mul_one, bytes_set, over_more (by omega) (by omega)] at h
                                refine ⟨trivial, ?_⟩
                                refine WT.done (by kernel_rfl) ?_
                                refine W.region ?_
                                refine WL.val run_move rfl rfl ?_
                                refine WL.val (run_incN rfl rfl (by omega)) rfl rfl ?_
                                refine WL.val run_assign rfl rfl ?_
                                refine WL.nil ?_
                                -- round, path FLTFFFFFTTLT
                                exact ⟨m + 1, ⟨by omega, _, mkE_of ⟨rfl, rfl, rfl, rfl, rfl, rfl, rfl, rfl, trivial⟩, h.to⟩, by show _ - (m + 1) < _ - m; omega⟩
                              · skip
                                refine W.exit ?_
                                -- to the cut, path FLTFFFFFTTLF
                                have ob_ : m = cbs.length := by omega
                                obtain rfl := ob_
                                have h0 := h
                                rw [List.take_length] at h0
                                clear h
                                have h := h0
                                have h : On W0 (Own 1 (.slice (some ⟨b24, 0, none⟩) 128 128) 128 (bytesV (((writeS s p cbs)).d)) :: _) w := h.fetch (Own 1 (.slice (some ⟨b24, 0, none⟩) 128 128) 128 (bytesV (over s.d (8 * p) cbs)))
                                exact ⟨_, (writeS s p cbs), (plain 0 0 0), [], (some ⟨b94, 0, none⟩), 0, (fun _ => rfl), hwf2.1, hwf2.2, mkE_of ⟨rfl, rfl, rfl, rfl, rfl, rfl, trivial⟩, h.to⟩
                          · skip
                            refine W.seq ?_
                            refine W.region ?_
                            refine WL.val (run_fieldAddr 0 Tryz.underlying25 rfl Tryz.sizeOf3 rfl rfl) rfl rfl ?_
                            refine WL.val (run_load1 Tryz.isAgg3 rfl (h.cellB rfl)) rfl rfl ?_
                            refine WL.val (run_eql rfl rfl) rfl rfl ?_
                            refine WL.val run_assign rfl rfl ?_
                            refine WL.nil ?_
                            refine W.condIf rfl (fun c51 => ?_) (fun c51 => ?_)
                            · skip
                              exact absurd c51 (by omega)
                            · skip
                              refine W.seq ?_
                              refine W.region ?_
                              refine WL.val (run_fieldAddr 0 Tryz.underlying25 rfl Tryz.sizeOf3 rfl rfl) rfl rfl ?_
                              refine WL.val (run_load1 Tryz.isAgg3 rfl (h.cellB rfl)) rfl rfl ?_
                              refine WL.dec (run_eql rfl rfl) rfl rfl (fun c154 => ?_) (fun c154 => ?_)
                              · skip
                                exact absurd c154 (by omega)
                              · skip
                                refine WL.val run_move rfl rfl ?_
                                refine WL.skip rfl rfl ?_
                                refine WL.skip rfl rfl ?_
                                refine WL.skip rfl rfl ?_
                                refine WL.skip rfl rfl ?_
                                refine WL.skip rfl rfl ?_
                                refine WL.skip rfl rfl ?_
                                refine WL.skip rfl rfl ?_
                                refine WL.val (run_pickF rfl) rfl rfl ?_
                                refine WL.val run_assign rfl rfl ?_
                                refine WL.nil ?_
                                refine W.condF rfl ?_
                                refine W.seq ?_
                                refine W.region ?_
                                refine WL.val (run_fieldAddr 0 Tryz.underlying25 rfl Tryz.sizeOf3 rfl rfl) rfl rfl ?_
                                refine WL.val (run_load1 Tryz.isAgg3 rfl (h.cellB rfl)) rfl rfl ?_
                                refine WL.val (run_eql rfl rfl) rfl rfl ?_
                                refine WL.val run_assign rfl rfl ?_
                                refine WL.nil ?_
                                refine W.condIf rfl (fun c82 => ?_) (fun c82 => ?_)
                                · skip
                                  exact absurd c82 (by omega)
                                · skip
                                  have hend : s = s' ∧ (r.st = 0 → r.data = []) := by
                                    have key : ∀ rr : Rp, runM s (⟨ck, ((p : Nat) : Int), ((q : Nat) : Int), cbs, cky, cnw, cty, cfo⟩ : Cm) = (s, rr) → (rr.st = 0 → rr.data = []) → s = s' ∧ (r.st = 0 → r.data = []) := fun rr e h0 => by
                                      have e := hrun.symm.trans e
                                      simp only [Prod.mk.injEq] at e
                                      obtain ⟨e1, e2⟩ := e
                                      subst e2
                                      exact ⟨e1.symm, h0⟩
                                    by_cases e3 : ck = 3
                                    · exact key _ (run_write_no (c := (⟨ck, ((p : Nat) : Int), ((q : Nat) : Int), cbs, cky, cnw, cty, cfo⟩ : Cm)) (show inS s (⟨ck, ((p : Nat) : Int), ((q : Nat) : Int), cbs, cky, cnw, cty, cfo⟩ : Cm).at_ (⟨ck, ((p : Nat) : Int), ((q : Nat) : Int), cbs, cky, cnw, cty, cfo⟩ : Cm).n from hin) e3 (by show ¬ (cbs.length : Int) = (q : Int) * 8; omega)) (fun e => by cases e)
                                    · by_cases e6 : ck = 6
                                      · exact key _ (run_cmp_no (c := (⟨ck, ((p : Nat) : Int), ((q : Nat) : Int), cbs, cky, cnw, cty, cfo⟩ : Cm)) (show inS s (⟨ck, ((p : Nat) : Int), ((q : Nat) : Int), cbs, cky, cnw, cty, cfo⟩ : Cm).at_ (⟨ck, ((p : Nat) : Int), ((q : Nat) : Int), cbs, cky, cnw, cty, cfo⟩ : Cm).n from hin) e6 (by show ¬ (cbs.length : Int) = 2 * ((q : Int) * 8); omega)) (fun e => by cases e)
                                      · exact key _ (run_sync (c := (⟨ck, ((p : Nat) : Int), ((q : Nat) : Int), cbs, cky, cnw, cty, cfo⟩ : Cm)) (show inS s (⟨ck, ((p : Nat) : Int), ((q : Nat) : Int), cbs, cky, cnw, cty, cfo⟩ : Cm).at_ (⟨ck, ((p : Nat) : Int), ((q : Nat) : Int), cbs, cky, cnw, cty, cfo⟩ : Cm).n from hin) (show ck = 4 by omega)) (fun _ => rfl)
                                  obtain ⟨hs_, hst⟩ := hend
                                  subst hs_
                                  refine W.skip ?_
                                  -- to the cut, path FLTFFFFFTFFFF
                                  have h : On W0 (Own 1 (.slice (some ⟨b24, 0, none⟩) 128 128) 128 (bytesV ((s).d)) :: _) w := h.fetch (Own 1 (.slice (some ⟨b24, 0, none⟩) 128 128) 128 (bytesV (s.d)))
                                  exact ⟨_, s, r, [], (some ⟨b94, 0, none⟩), 0, hst, hwf2.1, hwf2.2, mkE_of ⟨rfl, rfl, rfl, rfl, rfl, rfl, trivial⟩, h.to⟩
                        · skip
                          refine WL.val run_move rfl rfl ?_
                          refine WL.skip rfl rfl ?_
                          refine WL.skip rfl rfl ?_
                          refine WL.skip rfl rfl ?_
                          refine WL.skip rfl rfl ?_
                          refine WL.skip rfl rfl ?_
                          refine WL.skip rfl rfl ?_
                          refine WL.skip rfl rfl ?_
                          refine WL.val (run_pickF rfl) rfl rfl ?_
                          refine WL.val run_assign rfl rfl ?_
                          refine WL.nil ?_
                          refine W.condF rfl ?_
                          refine W.seq ?_
                          refine W.region ?_
                          refine WL.val (run_fieldAddr 0 Tryz.underlying25 rfl Tryz.sizeOf3 rfl rfl) rfl rfl ?_
                          refine WL.val (run_load1 Tryz.isAgg3 rfl (h.cellB rfl)) rfl rfl ?_
                          refine WL.val (run_eql rfl rfl) rfl rfl ?_
                          refine WL.val run_assign rfl rfl ?_
                          refine WL.nil ?_
                          refine W.condIf rfl (fun c51 => ?_) (fun c51 => ?_)
                          · skip
                            refine W.seq ?_
                            have he_ : (unmapS s p q, (plain 0 0 0 : Rp)) = (s', r) := (run_unmap (c := (⟨ck, ((p : Nat) : Int), ((q : Nat) : Int), cbs, cky, cnw, cty, cfo⟩ : Cm)) (show inS s (⟨ck, ((p : Nat) : Int), ((q : Nat) : Int), cbs, cky, cnw, cty, cfo⟩ : Cm).at_ (⟨ck, ((p : Nat) : Int), ((q : Nat) : Int), cbs, cky, cnw, cty, cfo⟩ : Cm).n from hin) c51).symm.trans hrun
                            simp only [Prod.mk.injEq] at he_
                            obtain ⟨hs_, hr_⟩ := he_
                            subst hs_
                            subst hr_
                            refine W.region ?_
                            refine WL.val run_assign rfl rfl ?_
                            refine WL.nil ?_
                            refine W.block ?_
                            refine W.loop (fun (m : Nat) env w => m ≤ (8 * q) ∧ ∃ (j : Env), env = mkE j [(0, .slice (some ⟨bq, oq, none⟩) l.length cl), (3, .pointer (some ⟨bu, 0, none⟩)), (5, .slice (some ⟨b24, 0, none⟩) 128 128), (6, .int .i64 (k : Int)), (7, .pointer (some ⟨b7, 0, none⟩)), (8, .pointer (some ⟨b8, 0, none⟩)), (10, .slice (some ⟨b94, 0, none⟩) 0 0), (12, .int .i64 (m : Int))] ∧ On W0 (OwnB (.slice (some ⟨b94, 0, none⟩) 0 0) ([] : List UInt8) :: OwnB (.slice ad (plain 0 0 0).data.length cd) (plain 0 0 0).data :: UnP 84 146 152 bu [] ms (seqU (unmapS s p q)) :: blk b8 [.int .i64 (plain 0 0 0).st, .int .i64 (plain 0 0 0).key, .int .i64 (plain 0 0 0).code, .slice ad (plain 0 0 0).data.length cd, .int .i64 (plain 0 0 0).info] 36 :: blk b7 [.int .i64 ck, .int .i64 ((p : Nat) : Int), .int .i64 ((q : Nat) : Int), .slice cax cbs.length cac, .int .u64 cky, .int .u64 cnw, .int .i64 cty, .bool cfo] 25 :: Own 1 (.slice (some ⟨b24, 0, none⟩) 128 128) 128 (bytesV (over s.d (8 * p) (List.replicate m 0))) :: F) w) (fun m => (8 * q) - m) (0) ?_ ?_
                            · have e0 : s.d = over s.d (8 * p) (List.replicate 0 0) := by first | (rw [List.take_zero]; exact (over_nil _ _).symm) | (rw [List.replicate_zero]; exact (over_nil _ _).symm)
                              have h := h.fetch (Own 1 (.slice (some ⟨b24, 0, none⟩) 128 128) 128 (bytesV (s.d)))
                              rw [congrArg bytesV e0] at h
                              exact ⟨Nat.zero_le _, _, mkE_of ⟨rfl, rfl, rfl, rfl, rfl, rfl, rfl, rfl, trivial⟩, h.to⟩
                            · clear h
                              rintro m env w ⟨hm, j, rfl, h⟩
                              refine W.seq ?_
                              refine W.seq ?_
                              refine W.region ?_
                              refine WL.val run_move rfl rfl ?_
                              refine WL.val (run_fieldAddr 2 Tryz.underlying25 rfl Tryz.sizeOf3 rfl rfl) rfl rfl ?_
                              refine WL.val (run_load1 Tryz.isAgg3 rfl (h.cellB rfl)) rfl rfl ?_
                              refine WL.val (run_mulN (m := 8) (n := q) rfl rfl (by omega)) rfl rfl ?_
                              refine WL.val (run_lss rfl rfl) rfl rfl ?_
                              refine WL.nil ?_
                              refine W.condIf rfl (fun c56 => ?_) (fun c56 => ?_)
                              · skip
                                refine W.skip ?_
                                refine W.seq ?_
                                refine W.block ?_
                                refine W.region ?_
                                refine WL.val run_move rfl rfl ?_
                                refine WL.val (run_fieldAddr 1 Tryz.underlying25 rfl Tryz.sizeOf3 rfl rfl) rfl rfl ?_
                                refine WL.val (run_load1 Tryz.isAgg3 rfl (h.cellB rfl)) rfl rfl ?_
                                refine WL.val (run_mulN (m := 8) (n := p) rfl rfl (by omega)) rfl rfl ?_
                                refine WL.val run_move rfl rfl ?_
                                refine WL.val (run_addN (m := 8 * p) (n := m) rfl rfl (by omega)) rfl rfl ?_
                                refine WL.val (run_indexAddr Tryz.underlying22 Tryz.sizeOf5 rfl rfl (by omega) (by omega)) rfl rfl ?_
                                refine WL.eff (eff_storeOwn (size := 1) (k := (8 * p + m) * 1) (v := .int .u8 ((0 : UInt8).toNat : Int)) (h.own (.slice (some ⟨b24, 0, none⟩) 128 128)) Tryz.sizeOf5 rfl rfl rfl (by omega)) rfl rfl ?_
                                rintro _ w h
                                rw [Nat.mul_one, bytes_set, over_zero (n := 8 * q) (by omega) (by omega)] at h
                                refine WL.nil ?_
                                refine W.region ?_
                                refine WL.val run_move rfl rfl ?_
                                refine WL.val (run_incN rfl rfl (by omega)) rfl rfl ?_
                                refine WL.val run_assign rfl rfl ?_
                                refine WL.nil ?_
                                -- round, path FLTFFFFFFTLT
                                exact ⟨m + 1, ⟨by omega, _, mkE_of ⟨rfl, rfl, rfl, rfl, rfl, rfl, rfl, rfl, trivial⟩, h.to⟩, by show _ - (m + 1) < _ - m; omega⟩
                              · skip
                                refine W.exit ?_
                                -- to the cut, path FLTFFFFFFTLF
                                have ob_ : m = 8 * q := by omega
                                obtain rfl := ob_
                                have h : On W0 (Own 1 (.slice (some ⟨b24, 0, none⟩) 128 128) 128 (bytesV (((unmapS s p q)).d)) :: _) w := h.fetch (Own 1 (.slice (some ⟨b24, 0, none⟩) 128 128) 128 (bytesV (over s.d (8 * p) (List.replicate (8 * q) 0))))
                                exact ⟨_, (unmapS s p q), (plain 0 0 0), [], (some ⟨b94, 0, none⟩), 0, (fun _ => rfl), hwf2.1, hwf2.2, mkE_of ⟨rfl, rfl, rfl, rfl, rfl, rfl, trivial⟩, h.to⟩
                          · skip
                            refine W.seq ?_
                            refine W.region ?_
                            refine WL.val (run_fieldAddr 0 Tryz.underlying25 rfl Tryz.sizeOf3 rfl rfl) rfl rfl ?_
                            refine WL.val (run_load1 Tryz.isAgg3 rfl (h.cellB rfl)) rfl rfl ?_
                            refine WL.dec (run_eql rfl rfl) rfl rfl (fun c154 => ?_) (fun c154 => ?_)
                            · skip
                              refine WL.val run_move rfl rfl ?_
                              refine WL.val (run_fieldAddr 3 Tryz.underlying25 rfl Tryz.sizeOf22 rfl rfl) rfl rfl ?_
                              refine WL.val (run_load1 Tryz.isAgg22 rfl (h.cellB rfl)) rfl rfl ?_
                              refine WL.val (run_lenSlice Tryz.underlying22 rfl) rfl rfl ?_
                              refine WL.val (run_fieldAddr 2 Tryz.underlying25 rfl Tryz.sizeOf3 rfl rfl) rfl rfl ?_
                              refine WL.val (run_load1 Tryz.isAgg3 rfl (h.cellB rfl)) rfl rfl ?_
                              refine WL.val (run_mulN (m := 16) (n := q) rfl rfl (by omega)) rfl rfl ?_
                              refine WL.val (run_eql rfl rfl) rfl rfl ?_
                              refine WL.val (run_pickT rfl) rfl rfl ?_
                              refine WL.val run_assign rfl rfl ?_
                              refine WL.nil ?_
                              refine W.condIf rfl (fun c63 => ?_) (fun c63 => ?_)
                              · skip
                                refine W.seq ?_
                                have hd128 : s.d.length = 128 := by rw [hw.1, hN]
                                have CN := ownGives h (v := .slice (some ⟨b24, 0, none⟩) 128 128)
                                have hcut_ := cells_cutq (lo := 8 * p) (hi := 8 * p + 8 * q) (q := 8 * q) CN rfl (by omega) (by omega)
                                obtain ⟨a175, c175, hcut, CC⟩ := hcut_
                                have hq8 : 8 * q = (cbs.take (8 * q)).length := by rw [List.length_take]; omega
                                have CB : Gives F (Cells 1 (.slice cax (8 * q) cac) (8 * q) (bytesV (cbs.take (8 * q)))) := fun hh H => bytes_front (hbx hh H) (by omega)
                                refine W.draw Tryz.follows h (fun w h => ?_)
                                refine WT.pure 0 rfl (by kernel_rfl) (fun w' => run_move) rfl rfl ?_
                                refine WT.pure 1 rfl (by kernel_rfl) (fun w' => (run_fieldAddr 1 Tryz.underlying25 rfl Tryz.sizeOf3 rfl rfl)) rfl rfl ?_
                                refine WT.load1 2 rfl (by kernel_rfl) Tryz.isAgg3 rfl (h.cellB rfl) rfl rfl ?_
                                refine WT.pure 3 rfl (by kernel_rfl) (fun w' => (run_mulN (m := 8) (n := p) rfl rfl (by omega))) rfl rfl ?_
                                refine WT.pure 4 rfl (by kernel_rfl) (fun w' => (run_fieldAddr 1 Tryz.underlying25 rfl Tryz.sizeOf3 rfl rfl)) rfl rfl ?_
                                refine WT.load1 5 rfl (by kernel_rfl) Tryz.isAgg3 rfl (h.cellB rfl) rfl rfl ?_
                                refine WT.pure 6 rfl (by kernel_rfl) (fun w' => (run_mulN (m := 8) (n := p) rfl rfl (by omega))) rfl rfl ?_
                                refine WT.pure 7 rfl (by kernel_rfl) (fun w' => (run_fieldAddr 2 Tryz.underlying25 rfl Tryz.sizeOf3 rfl rfl)) rfl rfl ?_
                                refine WT.load1 8 rfl (by kernel_rfl) Tryz.isAgg3 rfl (h.cellB rfl) rfl rfl ?_
                                refine WT.pure 9 rfl (by kernel_rfl) (fun w' => (run_mulN (m := 8) (n := q) rfl rfl (by omega))) rfl rfl ?_
                                refine WT.pure 10 rfl (by kernel_rfl) (fun w' => (run_addN (m := 8 * p) (n := 8 * q) rfl rfl (by omega))) rfl rfl ?_
                                refine WT.pure 11 rfl (by kernel_rfl) (fun w' => (run_cutLHV Tryz.underlying22 Tryz.sizeOf5 rfl rfl rfl (by omega) (by omega) hcut)) rfl rfl ?_
                                refine WT.take 12 (fun w => Cells 1 (.slice a175 (8 * q) c175) (8 * q) (bytesV ((s.d.drop (8 * p)).take (8 * q))) (hp w)) rfl (by kernel_rfl) rfl rfl (h.reads CC) (fun w' hC => run_bytesStr Tryz.underlying22 Tryz.underlying5 Tryz.underlying9 rfl hC) ?_
                                refine WT.pure 13 rfl (by kernel_rfl) (fun w' => (run_fieldAddr 3 Tryz.underlying25 rfl Tryz.sizeOf22 rfl rfl)) rfl rfl ?_
                                refine WT.load1 14 rfl (by kernel_rfl) Tryz.isAgg22 rfl (h.cellB rfl) rfl rfl ?_
                                refine WT.pure 15 rfl (by kernel_rfl) (fun w' => (run_fieldAddr 2 Tryz.underlying25 rfl Tryz.sizeOf3 rfl rfl)) rfl rfl ?_
                                refine WT.load1 16 rfl (by kernel_rfl) Tryz.isAgg3 rfl (h.cellB rfl) rfl rfl ?_
                                refine WT.pure 17 rfl (by kernel_rfl) (fun w' => (run_mulN (m := 8) (n := q) rfl rfl (by omega))) rfl rfl ?_
                                refine WT.pure 18 rfl (by kernel_rfl) (fun w' => (run_cutH Tryz.underlying22 Tryz.sizeOf5 rfl rfl (by omega))) rfl rfl ?_
                                refine WT.take 19 (fun w => Cells 1 (.slice cax (8 * q) cac) (8 * q) (bytesV (cbs.take (8 * q))) (hp w)) rfl (by kernel_rfl) rfl rfl (h.readsTo CB) (fun w' hC => run_bytesStr Tryz.underlying22 Tryz.underlying5 Tryz.underlying9 rfl hC) ?_
                                refine WT.pure 20 rfl (by kernel_rfl) (fun w' => (run_eqlStr rfl rfl)) rfl rfl ?_
                                refine WT.done (by kernel_rfl) ?_
                                refine W.condIf rfl (fun c65 => ?_) (fun c65 => ?_)
                                · skip
                                  simp only [Go.ByteArray.toList_eq] at c65
                                  have he_ : (writeS s p (cbs.drop (8 * q)), (plain 0 0 0 : Rp)) = (s', r) := (run_cmp_eq (c := (⟨ck, ((p : Nat) : Int), ((q : Nat) : Int), cbs, cky, cnw, cty, cfo⟩ : Cm)) (show inS s (⟨ck, ((p : Nat) : Int), ((q : Nat) : Int), cbs, cky, cnw, cty, cfo⟩ : Cm).at_ (⟨ck, ((p : Nat) : Int), ((q : Nat) : Int), cbs, cky, cnw, cty, cfo⟩ : Cm).n from hin) rfl rfl c154 (by show (cbs.length : Int) = 16 * (q : Int); omega) c65).symm.trans hrun
                                  simp only [Prod.mk.injEq] at he_
                                  obtain ⟨hs_, hr_⟩ := he_
                                  subst hs_
                                  subst hr_
                                  have hcl : (cbs.drop (8 * q)).length = 8 * q := by rw [List.length_drop]; omega
                                  refine W.seq ?_
                                  refine W.region ?_
                                  refine WL.val run_assign rfl rfl ?_
                                  refine WL.nil ?_
                                  refine W.block ?_
                                  refine W.loop (fun (m : Nat) env w => m ≤ (8 * q) ∧ ∃ (j : Env), env = mkE j [(0, .slice (some ⟨bq, oq, none⟩) l.length cl), (3, .pointer (some ⟨bu, 0, none⟩)), (5, .slice (some ⟨b24, 0, none⟩) 128 128), (6, .int .i64 (k : Int)), (7, .pointer (some ⟨b7, 0, none⟩)), (8, .pointer (some ⟨b8, 0, none⟩)), (10, .slice (some ⟨b94, 0, none⟩) 0 0), (13, .int .i64 (m : Int))] ∧ On W0 (OwnB (.slice (some ⟨b94, 0, none⟩) 0 0) ([] : List UInt8) :: OwnB (.slice ad (plain 0 0 0).data.length cd) (plain 0 0 0).data :: UnP 84 146 152 bu [] ms (seqU (writeS s p (cbs.drop (8 * q)))) :: blk b8 [.int .i64 (plain 0 0 0).st, .int .i64 (plain 0 0 0).key, .int .i64 (plain 0 0 0).code, .slice ad (plain 0 0 0).data.length cd, .int .i64 (plain 0 0 0).info] 36 :: blk b7 [.int .i64 ck, .int .i64 ((p : Nat) : Int), .int .i64 ((q : Nat) : Int), .slice cax cbs.length cac, .int .u64 cky, .int .u64 cnw, .int .i64 cty, .bool cfo] 25 :: Own 1 (.slice (some ⟨b24, 0, none⟩) 128 128) 128 (bytesV (over s.d (8 * p) ((cbs.drop (8 * q)).take m))) :: F) w) (fun m => (8 * q) - m) (0) ?_ ?_
                                  · have e0 : s.d = over s.d (8 * p) ((cbs.drop (8 * q)).take 0) := by first | (rw [List.take_zero]; exact (over_nil _ _).symm) | (rw [List.replicate_zero]; exact (over_nil _ _).symm)
                                    have h := h.fetch (Own 1 (.slice (some ⟨b24, 0, none⟩) 128 128) 128 (bytesV (s.d)))
                                    rw [congrArg bytesV e0] at h
                                    exact ⟨Nat.zero_le _, _, mkE_of ⟨rfl, rfl, rfl, rfl, rfl, rfl, rfl, rfl, trivial⟩, h.to⟩
                                  · clear h
                                    rintro m env w ⟨hm, j, rfl, h⟩
                                    refine W.seq ?_
                                    refine W.seq ?_
                                    refine W.region ?_
                                    refine WL.val run_move rfl rfl ?_
                                    refine WL.val (run_fieldAddr 2 Tryz.underlying25 rfl Tryz.sizeOf3 rfl rfl) rfl rfl ?_
                                    refine WL.val (run_load1 Tryz.isAgg3 rfl (h.cellB rfl)) rfl rfl ?_
                                    refine WL.val (run_mulN (m := 8) (n := q) rfl rfl (by omega)) rfl rfl ?_
                                    refine WL.val (run_lss rfl rfl) rfl rfl ?_
                                    refine WL.nil ?_
                                    refine W.condIf rfl (fun c70 => ?_) (fun c70 => ?_)
                                    · skip
                                      refine W.skip ?_
                                      refine W.seq ?_
                                      have adx := (h.readsTo hbx).addr (by omega)
                                      obtain ⟨bx, ox, hax⟩ := adx
                                      subst hax
                                      have hxe : cbs[8 * q + m]? = some (cbs[8 * q + m]'(by omega)) := List.getElem?_eq_getElem _
                                      have hxr := bytes_row hxe
                                      have hge : (cbs.drop (8 * q))[m]'(by omega) = cbs[8 * q + m]'(by omega) := by rw [List.getElem_drop]
                                      refine W.block ?_
                                      refine W.draw Tryz.follows h (fun w h => ?_)
                                      refine WT.pure 0 rfl (by kernel_rfl) (fun w' => run_move) rfl rfl ?_
                                      refine WT.pure 1 rfl (by kernel_rfl) (fun w' => (run_fieldAddr 1 Tryz.underlying25 rfl Tryz.sizeOf3 rfl rfl)) rfl rfl ?_
                                      refine WT.load1 2 rfl (by kernel_rfl) Tryz.isAgg3 rfl (h.cellB rfl) rfl rfl ?_
                                      refine WT.pure 3 rfl (by kernel_rfl) (fun w' => (run_mulN (m := 8) (n := p) rfl rfl (by omega))) rfl rfl ?_
                                      refine WT.pure 4 rfl (by kernel_rfl) (fun w' => run_move) rfl rfl ?_
                                      refine WT.pure 5 rfl (by kernel_rfl) (fun w' => (run_addN (m := 8 * p) (n := m) rfl rfl (by omega))) rfl rfl ?_
                                      refine WT.pure 6 rfl (by kernel_rfl) (fun w' => (run_fieldAddr 3 Tryz.underlying25 rfl Tryz.sizeOf22 rfl rfl)) rfl rfl ?_
                                      refine WT.load1 7 rfl (by kernel_rfl) Tryz.isAgg22 rfl (h.cellB rfl) rfl rfl ?_
                                      refine WT.pure 8 rfl (by kernel_rfl) (fun w' => (run_fieldAddr 2 Tryz.underlying25 rfl Tryz.sizeOf3 rfl rfl)) rfl rfl ?_
                                      refine WT.load1 9 rfl (by kernel_rfl) Tryz.isAgg3 rfl (h.cellB rfl) rfl rfl ?_
                                      refine WT.pure 10 rfl (by kernel_rfl) (fun w' => (run_mulN (m := 8) (n := q) rfl rfl (by omega))) rfl rfl ?_
                                      refine WT.pure 11 rfl (by kernel_rfl) (fun w' => run_move) rfl rfl ?_
                                      refine WT.pure 12 rfl (by kernel_rfl) (fun w' => (run_addN (m := 8 * q) (n := m) rfl rfl (by omega))) rfl rfl ?_
                                      refine WT.pure 13 rfl (by kernel_rfl) (fun w' => (run_indexAddr Tryz.underlying22 Tryz.sizeOf5 rfl rfl (by omega) (by omega))) rfl rfl ?_
                                      refine WT.load1 14 rfl (by kernel_rfl) Tryz.isAgg5 rfl ((h.readsTo hbx).elem (i := 8 * q + m) (vs := [.int .u8 ((cbs[8 * q + m]'(by omega)).toNat : Int)]) (by omega) hxr 0 _ rfl) rfl rfl ?_
                                      refine WT.pure 15 rfl (by kernel_rfl) (fun w' => (run_indexAddr Tryz.underlying22 Tryz.sizeOf5 rfl rfl (by omega) (by omega))) rfl rfl ?_
                                      refine WT.eff 16 [false, false, false, false] rfl (by kernel_rfl) (by kernel_rfl) (eff_storeOwn (size := 1) (k := (8 * p + m) * 1) (v := .int .u8 ((cbs[8 * q + m]'(by omega)).toNat : Int)) (h.own (.slice (some ⟨b24, 0, none⟩) 128 128)) Tryz.sizeOf5 rfl rfl rfl (by omega)) rfl rfl ?_
                                      rintro _ w h
                                      rw [Nat.mul_one, bytes_set, ← hge, over_more (by omega) (by omega)] at h
                                      refine ⟨trivial, ?_⟩
                                      refine WT.done (by kernel_rfl) ?_
                                      refine W.region ?_
                                      refine WL.val run_move rfl rfl ?_
                                      refine WL.val (run_incN rfl rfl (by omega)) rfl rfl ?_
                                      refine WL.val run_assign rfl rfl ?_
                                      refine WL.nil ?_
                                      -- round, path FLTFFFFFFFTTTLT
                                      exact ⟨m + 1, ⟨by omega, _, mkE_of ⟨rfl, rfl, rfl, rfl, rfl, rfl, rfl, rfl, trivial⟩, h.to⟩, by show _ - (m + 1) < _ - m; omega⟩
                                    · skip
                                      refine W.exit ?_
                                      -- to the cut, path FLTFFFFFFFTTTLF
                                      have ob_ : m = 8 * q := by omega
                                      obtain rfl := ob_
                                      have h0 := h
                                      rw [List.take_of_length_le (by omega)] at h0
                                      clear h
                                      have h := h0
                                      have h : On W0 (Own 1 (.slice (some ⟨b24, 0, none⟩) 128 128) 128 (bytesV (((writeS s p (cbs.drop (8 * q)))).d)) :: _) w := h.fetch (Own 1 (.slice (some ⟨b24, 0, none⟩) 128 128) 128 (bytesV (over s.d (8 * p) (cbs.drop (8 * q)))))
                                      exact ⟨_, (writeS s p (cbs.drop (8 * q))), (plain 0 0 0), [], (some ⟨b94, 0, none⟩), 0, (fun _ => rfl), hwf2.1, hwf2.2, mkE_of ⟨rfl, rfl, rfl, rfl, rfl, rfl, trivial⟩, h.to⟩
                                · skip
                                  simp only [Go.ByteArray.toList_eq] at c65
                                  have he_ : (s, ((⟨2, 14, 7424, [], (diffAt (partS s p q) cbs : Nat)⟩ : Rp) : Rp)) = (s', r) := (run_cmp_ne (c := (⟨ck, ((p : Nat) : Int), ((q : Nat) : Int), cbs, cky, cnw, cty, cfo⟩ : Cm)) (show inS s (⟨ck, ((p : Nat) : Int), ((q : Nat) : Int), cbs, cky, cnw, cty, cfo⟩ : Cm).at_ (⟨ck, ((p : Nat) : Int), ((q : Nat) : Int), cbs, cky, cnw, cty, cfo⟩ : Cm).n from hin) rfl rfl c154 (by show (cbs.length : Int) = 16 * (q : Int); omega) c65).symm.trans hrun
                                  simp only [Prod.mk.injEq] at he_
                                  obtain ⟨hs_, hr_⟩ := he_
                                  subst hs_
                                  subst hr_
                                  refine W.seq ?_
                                  refine W.region ?_
                                  refine WL.val (run_fieldAddr 1 Tryz.underlying36 rfl Tryz.sizeOf3 rfl rfl) rfl rfl ?_
                                  refine WL.val (run_load1 Tryz.isAgg3 rfl (h.cellB rfl)) rfl rfl ?_
                                  refine WL.val (run_neqF rfl rfl (rfl)) rfl rfl ?_
                                  refine WL.nil ?_
                                  refine W.condF rfl ?_
                                  refine W.skip ?_
                                  -- to the cut, path FLTFFFFFFFTTF
                                  have h : On W0 (Own 1 (.slice (some ⟨b24, 0, none⟩) 128 128) 128 (bytesV ((s).d)) :: _) w := h.fetch (Own 1 (.slice (some ⟨b24, 0, none⟩) 128 128) 128 (bytesV (s.d)))
                                  exact ⟨_, s, (⟨2, 14, 7424, [], (diffAt (partS s p q) cbs : Nat)⟩ : Rp), [], (some ⟨b94, 0, none⟩), 0, (fun e => by cases e), hwf2.1, hwf2.2, mkE_of ⟨rfl, rfl, rfl, rfl, rfl, rfl, trivial⟩, h.to⟩
                              · skip
                                refine W.seq ?_
                                refine W.region ?_
                                refine WL.val (run_fieldAddr 0 Tryz.underlying25 rfl Tryz.sizeOf3 rfl rfl) rfl rfl ?_
                                refine WL.val (run_load1 Tryz.isAgg3 rfl (h.cellB rfl)) rfl rfl ?_
                                refine WL.val (run_eql rfl rfl) rfl rfl ?_
                                refine WL.val run_assign rfl rfl ?_
                                refine WL.nil ?_
                                refine W.condIf rfl (fun c82 => ?_) (fun c82 => ?_)
                                · skip
                                  exact absurd c82 (by omega)
                                · skip
                                  have hend : s = s' ∧ (r.st = 0 → r.data = []) := by
                                    have key : ∀ rr : Rp, runM s (⟨ck, ((p : Nat) : Int), ((q : Nat) : Int), cbs, cky, cnw, cty, cfo⟩ : Cm) = (s, rr) → (rr.st = 0 → rr.data = []) → s = s' ∧ (r.st = 0 → r.data = []) := fun rr e h0 => by
                                      have e := hrun.symm.trans e
                                      simp only [Prod.mk.injEq] at e
                                      obtain ⟨e1, e2⟩ := e
                                      subst e2
                                      exact ⟨e1.symm, h0⟩
                                    by_cases e3 : ck = 3
                                    · exact key _ (run_write_no (c := (⟨ck, ((p : Nat) : Int), ((q : Nat) : Int), cbs, cky, cnw, cty, cfo⟩ : Cm)) (show inS s (⟨ck, ((p : Nat) : Int), ((q : Nat) : Int), cbs, cky, cnw, cty, cfo⟩ : Cm).at_ (⟨ck, ((p : Nat) : Int), ((q : Nat) : Int), cbs, cky, cnw, cty, cfo⟩ : Cm).n from hin) e3 (by show ¬ (cbs.length : Int) = (q : Int) * 8; omega)) (fun e => by cases e)
                                    · by_cases e6 : ck = 6
                                      · exact key _ (run_cmp_no (c := (⟨ck, ((p : Nat) : Int), ((q : Nat) : Int), cbs, cky, cnw, cty, cfo⟩ : Cm)) (show inS s (⟨ck, ((p : Nat) : Int), ((q : Nat) : Int), cbs, cky, cnw, cty, cfo⟩ : Cm).at_ (⟨ck, ((p : Nat) : Int), ((q : Nat) : Int), cbs, cky, cnw, cty, cfo⟩ : Cm).n from hin) e6 (by show ¬ (cbs.length : Int) = 2 * ((q : Int) * 8); omega)) (fun e => by cases e)
                                      · exact key _ (run_sync (c := (⟨ck, ((p : Nat) : Int), ((q : Nat) : Int), cbs, cky, cnw, cty, cfo⟩ : Cm)) (show inS s (⟨ck, ((p : Nat) : Int), ((q : Nat) : Int), cbs, cky, cnw, cty, cfo⟩ : Cm).at_ (⟨ck, ((p : Nat) : Int), ((q : Nat) : Int), cbs, cky, cnw, cty, cfo⟩ : Cm).n from hin) (show ck = 4 by omega)) (fun _ => rfl)
                                  obtain ⟨hs_, hst⟩ := hend
                                  subst hs_
                                  refine W.skip ?_
                                  -- to the cut, path FLTFFFFFFFTFF
                                  have h : On W0 (Own 1 (.slice (some ⟨b24, 0, none⟩) 128 128) 128 (bytesV ((s).d)) :: _) w := h.fetch (Own 1 (.slice (some ⟨b24, 0, none⟩) 128 128) 128 (bytesV (s.d)))
                                  exact ⟨_, s, r, [], (some ⟨b94, 0, none⟩), 0, hst, hwf2.1, hwf2.2, mkE_of ⟨rfl, rfl, rfl, rfl, rfl, rfl, trivial⟩, h.to⟩
                            · skip
                              refine WL.val run_move rfl rfl ?_
                              refine WL.skip rfl rfl ?_
                              refine WL.skip rfl rfl ?_
                              refine WL.skip rfl rfl ?_
                              refine WL.skip rfl rfl ?_
                              refine WL.skip rfl rfl ?_
                              refine WL.skip rfl rfl ?_
                              refine WL.skip rfl rfl ?_
                              refine WL.val (run_pickF rfl) rfl rfl ?_
                              refine WL.val run_assign rfl rfl ?_
                              refine WL.nil ?_
                              refine W.condF rfl ?_
                              refine W.seq ?_
                              refine W.region ?_
                              refine WL.val (run_fieldAddr 0 Tryz.underlying25 rfl Tryz.sizeOf3 rfl rfl) rfl rfl ?_
                              refine WL.val (run_load1 Tryz.isAgg3 rfl (h.cellB rfl)) rfl rfl ?_
                              refine WL.val (run_eql rfl rfl) rfl rfl ?_
                              refine WL.val run_assign rfl rfl ?_
                              refine WL.nil ?_
                              refine W.condIf rfl (fun c82 => ?_) (fun c82 => ?_)
                              · skip
                                have he_ : (s, (gave (partS s p q) : Rp)) = (s', r) := (run_read_in (c := (⟨ck, ((p : Nat) : Int), ((q : Nat) : Int), cbs, cky, cnw, cty, cfo⟩ : Cm)) (show inS s (⟨ck, ((p : Nat) : Int), ((q : Nat) : Int), cbs, cky, cnw, cty, cfo⟩ : Cm).at_ (⟨ck, ((p : Nat) : Int), ((q : Nat) : Int), cbs, cky, cnw, cty, cfo⟩ : Cm).n from hin) c82).symm.trans hrun
                                simp only [Prod.mk.injEq] at he_
                                obtain ⟨hs_, hr_⟩ := he_
                                subst hs_
                                subst hr_
                                have hd128 : s.d.length = 128 := by rw [hw.1, hN]
                                have CN := ownGives h (v := .slice (some ⟨b24, 0, none⟩) 128 128)
                                have hcut_ := cells_cutq (lo := 8 * p) (hi := 8 * p + 8 * q) (q := 8 * q) CN rfl (by omega) (by omega)
                                obtain ⟨a175, c175, hcut, CC⟩ := hcut_
                                refine W.region ?_
                                refine WL.val run_move rfl rfl ?_
                                refine WL.val run_move rfl rfl ?_
                                refine WL.val (run_fieldAddr 1 Tryz.underlying25 rfl Tryz.sizeOf3 rfl rfl) rfl rfl ?_
                                refine WL.val (run_load1 Tryz.isAgg3 rfl (h.cellB rfl)) rfl rfl ?_
                                refine WL.val (run_mulN (m := 8) (n := p) rfl rfl (by omega)) rfl rfl ?_
                                refine WL.val (run_fieldAddr 1 Tryz.underlying25 rfl Tryz.sizeOf3 rfl rfl) rfl rfl ?_
                                refine WL.val (run_load1 Tryz.isAgg3 rfl (h.cellB rfl)) rfl rfl ?_
                                refine WL.val (run_mulN (m := 8) (n := p) rfl rfl (by omega)) rfl rfl ?_
                                refine WL.val (run_fieldAddr 2 Tryz.underlying25 rfl Tryz.sizeOf3 rfl rfl) rfl rfl ?_
                                refine WL.val (run_load1 Tryz.isAgg3 rfl (h.cellB rfl)) rfl rfl ?_
                                refine WL.val (run_mulN (m := 8) (n := q) rfl rfl (by omega)) rfl rfl ?_
                                refine WL.val (run_addN (m := 8 * p) (n := 8 * q) rfl rfl (by omega)) rfl rfl ?_
                                refine WL.val (run_cutLHV Tryz.underlying22 Tryz.sizeOf5 rfl rfl rfl (by omega) (by omega) hcut) rfl rfl ?_
                                refine WL.eff (eff_app (c2 := c175) (bytes := 1) h rfl rfl (h.reads CC) Tryz.underlying22 rfl rfl rfl rfl rfl (by omega) (by omega) bytes_one) rfl rfl ?_
                                rintro v228 w ⟨a228, c228, hv228, h⟩
                                have hpl : 0 + 8 * q = (partS s p q).length := by rw [partS_length hw (by omega)]; omega
                                rw [hpl] at hv228 h
                                subst hv228
                                have h : On W0 (OwnB (.slice a228 (partS s p q).length c228) (partS s p q) :: _) w := h
                                refine WL.val run_assign rfl rfl ?_
                                refine WL.nil ?_
                                -- to the cut, path FLTFFFFFFFFT
                                have h : On W0 (Own 1 (.slice (some ⟨b24, 0, none⟩) 128 128) 128 (bytesV ((s).d)) :: _) w := h.fetch (Own 1 (.slice (some ⟨b24, 0, none⟩) 128 128) 128 (bytesV (s.d)))
                                exact ⟨_, s, (gave (partS s p q)), (partS s p q), a228, c228, (fun _ => rfl), hwf2.1, hwf2.2, mkE_of ⟨rfl, rfl, rfl, rfl, rfl, rfl, trivial⟩, h.to⟩
                              · skip
                                have hend : s = s' ∧ (r.st = 0 → r.data = []) := by
                                  have key : ∀ rr : Rp, runM s (⟨ck, ((p : Nat) : Int), ((q : Nat) : Int), cbs, cky, cnw, cty, cfo⟩ : Cm) = (s, rr) → (rr.st = 0 → rr.data = []) → s = s' ∧ (r.st = 0 → r.data = []) := fun rr e h0 => by
                                    have e := hrun.symm.trans e
                                    simp only [Prod.mk.injEq] at e
                                    obtain ⟨e1, e2⟩ := e
                                    subst e2
                                    exact ⟨e1.symm, h0⟩
                                  by_cases e3 : ck = 3
                                  · exact key _ (run_write_no (c := (⟨ck, ((p : Nat) : Int), ((q : Nat) : Int), cbs, cky, cnw, cty, cfo⟩ : Cm)) (show inS s (⟨ck, ((p : Nat) : Int), ((q : Nat) : Int), cbs, cky, cnw, cty, cfo⟩ : Cm).at_ (⟨ck, ((p : Nat) : Int), ((q : Nat) : Int), cbs, cky, cnw, cty, cfo⟩ : Cm).n from hin) e3 (by show ¬ (cbs.length : Int) = (q : Int) * 8; omega)) (fun e => by cases e)
                                  · by_cases e6 : ck = 6
                                    · exact key _ (run_cmp_no (c := (⟨ck, ((p : Nat) : Int), ((q : Nat) : Int), cbs, cky, cnw, cty, cfo⟩ : Cm)) (show inS s (⟨ck, ((p : Nat) : Int), ((q : Nat) : Int), cbs, cky, cnw, cty, cfo⟩ : Cm).at_ (⟨ck, ((p : Nat) : Int), ((q : Nat) : Int), cbs, cky, cnw, cty, cfo⟩ : Cm).n from hin) e6 (by show ¬ (cbs.length : Int) = 2 * ((q : Int) * 8); omega)) (fun e => by cases e)
                                    · exact key _ (run_sync (c := (⟨ck, ((p : Nat) : Int), ((q : Nat) : Int), cbs, cky, cnw, cty, cfo⟩ : Cm)) (show inS s (⟨ck, ((p : Nat) : Int), ((q : Nat) : Int), cbs, cky, cnw, cty, cfo⟩ : Cm).at_ (⟨ck, ((p : Nat) : Int), ((q : Nat) : Int), cbs, cky, cnw, cty, cfo⟩ : Cm).n from hin) (show ck = 4 by omega)) (fun _ => rfl)
                                obtain ⟨hs_, hst⟩ := hend
                                subst hs_
                                refine W.skip ?_
                                -- to the cut, path FLTFFFFFFFFF
                                have h : On W0 (Own 1 (.slice (some ⟨b24, 0, none⟩) 128 128) 128 (bytesV ((s).d)) :: _) w := h.fetch (Own 1 (.slice (some ⟨b24, 0, none⟩) 128 128) 128 (bytesV (s.d)))
                                exact ⟨_, s, r, [], (some ⟨b94, 0, none⟩), 0, hst, hwf2.1, hwf2.2, mkE_of ⟨rfl, rfl, rfl, rfl, rfl, rfl, trivial⟩, h.to⟩
                    · clear h
                      rintro env w ⟨j, s2_, r2, want, aw, cw, hst, hw2, hN2, rfl, h⟩
                      refine W.seq ?_
                      refine W.region ?_
                      refine WL.val (run_fieldAddr 0 Tryz.underlying36 rfl Tryz.sizeOf3 rfl rfl) rfl rfl ?_
                      refine WL.val (run_load1 Tryz.isAgg3 rfl (h.cellB rfl)) rfl rfl ?_
                      refine WL.dec (run_eql rfl rfl) rfl rfl (fun c231 => ?_) (fun c231 => ?_)
                      · skip
                        refine WL.val run_move rfl rfl ?_
                        refine WL.val (run_fieldAddr 3 Tryz.underlying36 rfl Tryz.sizeOf22 rfl rfl) rfl rfl ?_
                        refine WL.val (run_load1 Tryz.isAgg22 rfl (h.cellB rfl)) rfl rfl ?_
                        refine WL.val (run_bytesStr Tryz.underlying22 Tryz.underlying5 Tryz.underlying9 rfl (h.cellsO (v := .slice ad r2.data.length cd))) rfl rfl ?_
                        refine WL.val run_move rfl rfl ?_
                        refine WL.val (run_bytesStr Tryz.underlying22 Tryz.underlying5 Tryz.underlying9 rfl (h.cellsO (v := .slice aw want.length cw))) rfl rfl ?_
                        refine WL.val (run_neqStr rfl rfl) rfl rfl ?_
                        refine WL.val (run_pickT rfl) rfl rfl ?_
                        refine WL.nil ?_
                        refine W.condB rfl (fun c86 => ?_) (fun c86 => ?_)
                        · skip
                          exfalso
                          rw [hst c231] at c86
                          simp at c86
                        · skip
                          refine W.skip ?_
                          refine W.region ?_
                          refine WL.val run_move rfl rfl ?_
                          refine WL.val (run_add rfl rfl (by omega) (by omega)) rfl rfl ?_
                          refine WL.val run_assign rfl rfl ?_
                          refine WL.nil ?_
                          -- round, path FLTFFFFTF
                          exact ⟨k + 1, ⟨by omega, _, s2_, hw2, hN2, mkE_of ⟨rfl, rfl, rfl, rfl, trivial⟩, h.to⟩, by show l.length - (k + 1) < l.length - k; omega⟩
                      · skip
                        refine WL.val run_move rfl rfl ?_
                        refine WL.skip rfl rfl ?_
                        refine WL.skip rfl rfl ?_
                        refine WL.skip rfl rfl ?_
                        refine WL.skip rfl rfl ?_
                        refine WL.skip rfl rfl ?_
                        refine WL.skip rfl rfl ?_
                        refine WL.val (run_pickF rfl) rfl rfl ?_
                        refine WL.nil ?_
                        refine W.condF rfl ?_
                        refine W.skip ?_
                        refine W.region ?_
                        refine WL.val run_move rfl rfl ?_
                        refine WL.val (run_add rfl rfl (by omega) (by omega)) rfl rfl ?_
                        refine WL.val run_assign rfl rfl ?_
                        refine WL.nil ?_
                        -- round, path FLTFFFFF
                        exact ⟨k + 1, ⟨by omega, _, s2_, hw2, hN2, mkE_of ⟨rfl, rfl, rfl, rfl, trivial⟩, h.to⟩, by show l.length - (k + 1) < l.length - k; omega⟩
      · skip
        refine W.exit ?_
        refine W.seq ?_
        refine W.region ?_
        refine WL.val run_move rfl rfl ?_
        refine WL.val (run_buildS (pl := [(0, 1), (1, 1), (2, 1), (3, 1), (4, 1), (5, 1), (6, 1), (7, 1)]) (out := [.int .i64 _, .int .i64 _, .int .i64 _, .slice _ _ _, .int .u64 _, .int .u64 _, .int .i64 _, .bool _]) Tryz.underlying25 Tryz.zeroValue25 (fun w => by kernel_rfl) rfl (⟨⟨_, _, rfl, rfl, by decide⟩, ⟨⟨_, _, rfl, rfl, by decide⟩, trivial⟩⟩) rfl) rfl rfl ?_
        refine WL.eff (eff_call Tryz.call13 (do_ok (hh := 0) (kind := 2) (at_ := 0) (n := 16) (data := []) (key := 0) (new := 0) (typ := 0) (force := false) (u := seqU s) (by decide) (seq_ok s).2 (seq_ok s).1 (h.fetch (UnP 84 146 152 bu [] ms (seqU (s)))) Gives.nilB (by decide))) rfl rfl ?_
        rintro _ w ⟨u1_, r1_, dv, he, rfl, h⟩
        have he := he.symm.trans (seq_last hw hN)
        simp only [Prod.mk.injEq] at he
        obtain ⟨rfl, rfl⟩ := he
        have of_ := Own.form h
        obtain ⟨ad242, cd242, hdv, _⟩ := of_
        have hd128 : s.d.length = 128 := by rw [hw.1, hN]
        have hg128 : (gave s.d).data.length = 128 := hd128
        rw [hg128] at hdv
        subst hdv
        have h : On W0 (Own 1 (.slice ad242 128 cd242) (gave s.d).data.length (bytesV s.d) :: _) w := h
        rw [hg128] at h
        refine WL.eff (eff_alloc h Tryz.zeroValue36 rfl) rfl rfl ?_
        rintro _ w ⟨b14, rfl, h⟩
        refine WL.eff (eff_storeN (vs := [.int .i64 _, .int .i64 _, .int .i64 _, .slice _ _ _, .int .i64 _]) h Tryz.sizeOf36 rfl rfl rfl rfl rfl (fun k _ _ => free0 k)) rfl rfl ?_
        rintro _ w h
        try simp only [splice, List.take_zero, List.take_succ_cons, List.take_nil, List.drop_succ_cons, List.drop_zero, List.drop_nil, List.nil_append, List.cons_append, List.append_nil, List.length_cons, List.length_nil, Nat.zero_add, Nat.reduceAdd] at h
        refine WL.nil ?_
        refine W.seq ?_
        refine W.region ?_
        refine WL.val (run_fieldAddr 0 Tryz.underlying36 rfl Tryz.sizeOf3 rfl rfl) rfl rfl ?_
        refine WL.val (run_load1 Tryz.isAgg3 rfl (h.cellB rfl)) rfl rfl ?_
        refine WL.val (run_eqlT rfl rfl (rfl)) rfl rfl ?_
        refine WL.val run_move rfl rfl ?_
        refine WL.val (run_fieldAddr 3 Tryz.underlying36 rfl Tryz.sizeOf22 rfl rfl) rfl rfl ?_
        refine WL.val (run_load1 Tryz.isAgg22 rfl (h.cellB rfl)) rfl rfl ?_
        refine WL.val (run_bytesStr Tryz.underlying22 Tryz.underlying5 Tryz.underlying9 rfl (h.cellsO (v := .slice ad242 128 cd242))) rfl rfl ?_
        refine WL.val run_move rfl rfl ?_
        refine WL.val (run_bytesStr Tryz.underlying22 Tryz.underlying5 Tryz.underlying9 rfl (h.cellsO (v := .slice (some ⟨b24, 0, none⟩) 128 128))) rfl rfl ?_
        refine WL.val (run_eqlStrT rfl rfl (rfl)) rfl rfl ?_
        refine WL.val (run_pickT rfl) rfl rfl ?_
        refine WL.val run_move rfl rfl ?_
        refine WL.val (run_loadB (vs := [.int .i64 _, .int .i64 _, .int .i64 _, .slice _ _ _, .int .i64 _]) h Tryz.isAgg36 Tryz.sizeOf36 rfl rfl rfl) rfl rfl ?_
        refine WL.val run_move rfl rfl ?_
        refine WL.val (run_buildS (pl := [(0, 1), (1, 1), (2, 1), (3, 1), (4, 1)]) (out := [.int .i64 _, .int .i64 _, .int .i64 _, .slice _ _ _, .int .i64 _]) Tryz.underlying36 Tryz.zeroValue36 (fun w => by kernel_rfl) rfl (⟨⟨_, _, rfl, rfl, by decide⟩, trivial⟩) rfl) rfl rfl ?_
        refine WL.eff (eff_call Tryz.call16 (usameR_n (n1 := 128) (n2 := 128) (s1 := 0) (k1 := 0) (c1 := 0) (i1 := 0) (d1 := s.d) (s2 := 0) (k2 := 0) (c2 := 0) (i2 := 0) (d2 := s.d) hd128 hd128 h (Gives.ownO (v := .slice ad242 128 cd242)) (Gives.ownO (v := .slice (some ⟨b24, 0, none⟩) 128 128)))) rfl rfl ?_
        rintro _ w ⟨hv, h⟩
        have hv : _ = Value.bool true := hv.trans (congrArg Value.bool (decide_eq_true rfl))
        subst hv
        refine WL.val (run_pickT rfl) rfl rfl ?_
        refine WL.val run_assign rfl rfl ?_
        refine WL.nil ?_
        refine W.ret ?_
        refine bodyQ.r1 (v := .bool _) Tryz.results4 rfl ?_
        -- path FLF
        exact ⟨rfl, h.to⟩

end Go.Proofs.YtdpakoefdpmebaaGreat
