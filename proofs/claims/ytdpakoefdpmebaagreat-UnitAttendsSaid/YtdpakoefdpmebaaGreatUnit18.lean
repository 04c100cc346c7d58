/-
  A unit: laws of a unit: the contracts. Lines of walks printed by a program of the prover's.
-/
import Derived.Test.YtdpakoefdpmebaaGreatUnit17
import Derived.Test.YtdpakoefdpmebaaGreatUnitLaw
namespace Go.Proofs.YtdpakoefdpmebaaGreat
open Go Go.Sl Go.Sl.BitM Go.Sl.SpM Go.Sl.RsM Go.Sl.ByM Go.Sl.UnM
set_option linter.unusedVariables false
set_option linter.unusedSimpArgs false
set_option maxHeartbeats 1000000
set_option maxRecDepth 8000
variable {W0 w : World} {L F : List HProp}

theorem uattends_ok {host by_ at_ : Int} {cd : Nat} {ad : Option Addr} {data : List UInt8} (h : On W0 F w) (C : Gives F (Bytes (.slice ad data.length cd) data)) : Calls Tryz.prog 6 #[.int .i64 host, .int .i64 by_, .slice ad data.length cd, .int .i64 at_] w (Ret fun v w' => v = .bool true ∧ On W0 F w') := by
  refine enter Tryz.func6 rfl Tryz.ntmps6 rfl ?_
  have hbd := (h.reads C).bounds
  obtain ⟨hxc, hxm⟩ := hbd
  have hmx := maxLen_eq
  refine W.seq ?_
  refine W.region ?_
  refine WL.val run_assign rfl rfl ?_
  refine WL.nil ?_
  refine W.seq ?_
  refine W.seq ?_
  refine W.region ?_
  refine WL.eff (eff_call Tryz.call10 (uknown_ok h)) rfl rfl ?_
  rintro _ w ⟨rfl, h⟩
  refine WL.val (run_not rfl) rfl rfl ?_
  refine WL.nil ?_
  refine W.condF rfl ?_
  refine W.skip ?_
  refine W.seq ?_
  refine W.seq ?_
  refine W.region ?_
  refine WL.val run_move rfl rfl ?_
  refine WL.dec (run_lss rfl rfl) rfl rfl (fun c21 => ?_) (fun c21 => ?_)
  · skip
    refine WL.val run_move rfl rfl ?_
    refine WL.skip rfl rfl ?_
    refine WL.skip rfl rfl ?_
    refine WL.val (run_pickT rfl) rfl rfl ?_
    refine WL.val run_move rfl rfl ?_
    refine WL.skip rfl rfl ?_
    refine WL.skip rfl rfl ?_
    refine WL.val (run_pickT rfl) rfl rfl ?_
    refine WL.val run_move rfl rfl ?_
    refine WL.skip rfl rfl ?_
    refine WL.skip rfl rfl ?_
    refine WL.val (run_pickT rfl) rfl rfl ?_
    refine WL.val run_move rfl rfl ?_
    refine WL.skip rfl rfl ?_
    refine WL.skip rfl rfl ?_
    refine WL.skip rfl rfl ?_
    refine WL.val (run_pickT rfl) rfl rfl ?_
    refine WL.val run_move rfl rfl ?_
    refine WL.skip rfl rfl ?_
    refine WL.skip rfl rfl ?_
    refine WL.val (run_pickT rfl) rfl rfl ?_
    refine WL.val run_move rfl rfl ?_
    refine WL.skip rfl rfl ?_
    refine WL.skip rfl rfl ?_
    refine WL.val (run_pickT rfl) rfl rfl ?_
    refine WL.nil ?_
    refine W.condT rfl ?_
    refine W.seq ?_
    refine W.region ?_
    refine WL.val run_assign rfl rfl ?_
    refine WL.nil ?_
    refine W.ret ?_
    refine bodyQ.r1 (v := .bool _) Tryz.results6 rfl ?_
    -- path T
    exact ⟨rfl, h⟩
  · skip
    refine WL.val run_move rfl rfl ?_
    refine WL.val run_move rfl rfl ?_
    refine WL.dec (run_gtr rfl rfl) rfl rfl (fun c24 => ?_) (fun c24 => ?_)
    · skip
      refine WL.val (run_pickF rfl) rfl rfl ?_
      refine WL.val run_move rfl rfl ?_
      refine WL.skip rfl rfl ?_
      refine WL.skip rfl rfl ?_
      refine WL.val (run_pickT rfl) rfl rfl ?_
      refine WL.val run_move rfl rfl ?_
      refine WL.skip rfl rfl ?_
      refine WL.skip rfl rfl ?_
      refine WL.val (run_pickT rfl) rfl rfl ?_
      refine WL.val run_move rfl rfl ?_
      refine WL.skip rfl rfl ?_
      refine WL.skip rfl rfl ?_
      refine WL.skip rfl rfl ?_
      refine WL.val (run_pickT rfl) rfl rfl ?_
      refine WL.val run_move rfl rfl ?_
      refine WL.skip rfl rfl ?_
      refine WL.skip rfl rfl ?_
      refine WL.val (run_pickT rfl) rfl rfl ?_
      refine WL.val run_move rfl rfl ?_
      refine WL.skip rfl rfl ?_
      refine WL.skip rfl rfl ?_
      refine WL.val (run_pickT rfl) rfl rfl ?_
      refine WL.nil ?_
      refine W.condT rfl ?_
      refine W.seq ?_
      refine W.region ?_
      refine WL.val run_assign rfl rfl ?_
      refine WL.nil ?_
      refine W.ret ?_
      refine bodyQ.r1 (v := .bool _) Tryz.results6 rfl ?_
      -- path FT
      exact ⟨rfl, h⟩
    · skip
      refine WL.val (run_pickF rfl) rfl rfl ?_
      refine WL.val run_move rfl rfl ?_
      refine WL.val run_move rfl rfl ?_
      refine WL.dec (run_lss rfl rfl) rfl rfl (fun c28 => ?_) (fun c28 => ?_)
      · skip
        refine WL.val (run_pickF rfl) rfl rfl ?_
        refine WL.val run_move rfl rfl ?_
        refine WL.skip rfl rfl ?_
        refine WL.skip rfl rfl ?_
        refine WL.val (run_pickT rfl) rfl rfl ?_
        refine WL.val run_move rfl rfl ?_
        refine WL.skip rfl rfl ?_
        refine WL.skip rfl rfl ?_
        refine WL.skip rfl rfl ?_
        refine WL.val (run_pickT rfl) rfl rfl ?_
        refine WL.val run_move rfl rfl ?_
        refine WL.skip rfl rfl ?_
        refine WL.skip rfl rfl ?_
        refine WL.val (run_pickT rfl) rfl rfl ?_
        refine WL.val run_move rfl rfl ?_
        refine WL.skip rfl rfl ?_
        refine WL.skip rfl rfl ?_
        refine WL.val (run_pickT rfl) rfl rfl ?_
        refine WL.nil ?_
        refine W.condT rfl ?_
        refine W.seq ?_
        refine W.region ?_
        refine WL.val run_assign rfl rfl ?_
        refine WL.nil ?_
        refine W.ret ?_
        refine bodyQ.r1 (v := .bool _) Tryz.results6 rfl ?_
        -- path FFT
        exact ⟨rfl, h⟩
      · skip
        refine WL.val (run_pickF rfl) rfl rfl ?_
        refine WL.val run_move rfl rfl ?_
        refine WL.val run_move rfl rfl ?_
        refine WL.dec (run_gtr rfl rfl) rfl rfl (fun c32 => ?_) (fun c32 => ?_)
        · skip
          refine WL.val (run_pickF rfl) rfl rfl ?_
          refine WL.val run_move rfl rfl ?_
          refine WL.skip rfl rfl ?_
          refine WL.skip rfl rfl ?_
          refine WL.skip rfl rfl ?_
          refine WL.val (run_pickT rfl) rfl rfl ?_
          refine WL.val run_move rfl rfl ?_
          refine WL.skip rfl rfl ?_
          refine WL.skip rfl rfl ?_
          refine WL.val (run_pickT rfl) rfl rfl ?_
          refine WL.val run_move rfl rfl ?_
          refine WL.skip rfl rfl ?_
          refine WL.skip rfl rfl ?_
          refine WL.val (run_pickT rfl) rfl rfl ?_
          refine WL.nil ?_
          refine W.condT rfl ?_
          refine W.seq ?_
          refine W.region ?_
          refine WL.val run_assign rfl rfl ?_
          refine WL.nil ?_
          refine W.ret ?_
          refine bodyQ.r1 (v := .bool _) Tryz.results6 rfl ?_
          -- path FFFT
          exact ⟨rfl, h⟩
        · skip
          refine WL.val (run_pickF rfl) rfl rfl ?_
          refine WL.val run_move rfl rfl ?_
          refine WL.val run_move rfl rfl ?_
          refine WL.val (run_lenSlice Tryz.underlying22 rfl) rfl rfl ?_
          refine WL.dec (run_neq rfl rfl) rfl rfl (fun c37 => ?_) (fun c37 => ?_)
          · skip
            refine WL.val (run_pickF rfl) rfl rfl ?_
            refine WL.val run_move rfl rfl ?_
            refine WL.skip rfl rfl ?_
            refine WL.skip rfl rfl ?_
            refine WL.val (run_pickT rfl) rfl rfl ?_
            refine WL.val run_move rfl rfl ?_
            refine WL.skip rfl rfl ?_
            refine WL.skip rfl rfl ?_
            refine WL.val (run_pickT rfl) rfl rfl ?_
            refine WL.nil ?_
            refine W.condT rfl ?_
            refine W.seq ?_
            refine W.region ?_
            refine WL.val run_assign rfl rfl ?_
            refine WL.nil ?_
            refine W.ret ?_
            refine bodyQ.r1 (v := .bool _) Tryz.results6 rfl ?_
            -- path FFFFT
            exact ⟨rfl, h⟩
          · skip
            refine WL.val (run_pickF rfl) rfl rfl ?_
            refine WL.val run_move rfl rfl ?_
            refine WL.val run_move rfl rfl ?_
            refine WL.dec (run_lss rfl rfl) rfl rfl (fun c41 => ?_) (fun c41 => ?_)
            · skip
              refine WL.val (run_pickF rfl) rfl rfl ?_
              refine WL.val run_move rfl rfl ?_
              refine WL.skip rfl rfl ?_
              refine WL.skip rfl rfl ?_
              refine WL.val (run_pickT rfl) rfl rfl ?_
              refine WL.nil ?_
              refine W.condT rfl ?_
              refine W.seq ?_
              refine W.region ?_
              refine WL.val run_assign rfl rfl ?_
              refine WL.nil ?_
              refine W.ret ?_
              refine bodyQ.r1 (v := .bool _) Tryz.results6 rfl ?_
              -- path FFFFFT
              exact ⟨rfl, h⟩
            · skip
              refine WL.val (run_pickF rfl) rfl rfl ?_
              refine WL.val run_move rfl rfl ?_
              refine WL.val run_move rfl rfl ?_
              refine WL.val (run_gtr rfl rfl) rfl rfl ?_
              refine WL.val (run_pickF rfl) rfl rfl ?_
              refine WL.nil ?_
              refine W.condIf rfl (fun c7 => ?_) (fun c7 => ?_)
              · skip
                refine W.seq ?_
                refine W.region ?_
                refine WL.val run_assign rfl rfl ?_
                refine WL.nil ?_
                refine W.ret ?_
                refine bodyQ.r1 (v := .bool _) Tryz.results6 rfl ?_
                -- path FFFFFFT
                exact ⟨rfl, h⟩
              · skip
                refine W.skip ?_
                refine W.seq ?_
                have ei := Int.eq_ofNat_of_zero_le (show 0 ≤ host by omega)
                obtain ⟨i, hi0⟩ := ei
                have ej := Int.eq_ofNat_of_zero_le (show 0 ≤ by_ by omega)
                obtain ⟨j, hj0⟩ := ej
                have ep := Int.eq_ofNat_of_zero_le (show 0 ≤ at_ by omega)
                obtain ⟨p, hp0⟩ := ep
                subst hi0
                subst hj0
                subst hp0
                have hi : i < 8 := by omega
                have hj : j < 8 := by omega
                have hp3 : p ≤ 3 := by omega
                have hd8 : data.length = 8 := by omega
                have hn4 : okC (newU 4) ∧ small 1000000 (newU 4) := ⟨calm_okC (calm_new 4), calm_small (calm_new 4)⟩
                have ha1 : okC at1 ∧ small 1000000 at1 := ⟨at1_okC, at1_small⟩
                have ha2 := at2_ok hi
                have ha5 : okC ((at2 i).setS (writeS (newS 4) p data)) ∧ small 1000000 ((at2 i).setS (writeS (newS 4) p data)) := ha2
                have hcod := at1_codes hi
                refine W.region ?_
                refine WL.eff (eff_call Tryz.call15 (unew_ok (pool := []) h)) rfl rfl ?_
                rintro _ w hv
                rcases hv with ⟨N, hN, h1N, hN2, bu, ms, rfl, h⟩ | ⟨hno, _, _⟩
                rotate_left
                · exact absurd (by decide) hno
                have ob_ : N = 4 := by omega
                obtain rfl := ob_
                refine WL.val run_move rfl rfl ?_
                refine WL.val (run_extract rfl rfl) rfl rfl ?_
                refine WL.val (run_extract rfl rfl) rfl rfl ?_
                refine WL.val run_assign rfl rfl ?_
                refine WL.val run_assign rfl rfl ?_
                refine WL.nil ?_
                refine W.seq ?_
                refine W.region ?_
                refine WL.val run_move rfl rfl ?_
                refine WL.val run_move rfl rfl ?_
                refine WL.val (run_buildS (pl := [(0, 1), (1, 1), (2, 1), (3, 1), (4, 1), (5, 1), (6, 1), (7, 1)]) (out := [.int .i64 _, .int .i64 _, .int .i64 _, .slice _ _ _, .int .u64 _, .int .u64 _, .int .i64 _, .bool _]) Tryz.underlying25 Tryz.zeroValue25 (fun w => by kernel_rfl) rfl (⟨⟨_, _, rfl, rfl, by decide⟩, ⟨⟨_, _, rfl, rfl, by decide⟩, ⟨⟨_, _, rfl, rfl, by decide⟩, ⟨⟨_, _, rfl, rfl, by decide⟩, trivial⟩⟩⟩⟩) rfl) rfl rfl ?_
                refine WL.eff (eff_alloc h Tryz.zeroValue25 rfl) rfl rfl ?_
                rintro _ w ⟨b11, rfl, h⟩
                refine WL.eff (eff_storeN (vs := [.int .i64 _, .int .i64 _, .int .i64 _, .slice _ _ _, .int .u64 _, .int .u64 _, .int .i64 _, .bool _]) h Tryz.sizeOf25 rfl rfl rfl rfl rfl (fun k _ _ => free0 k)) rfl rfl ?_
                rintro _ w h
                try simp only [splice, List.take_zero, List.take_succ_cons, List.take_nil, List.drop_succ_cons, List.drop_zero, List.drop_nil, List.nil_append, List.cons_append, List.append_nil, List.length_cons, List.length_nil, Nat.zero_add, Nat.reduceAdd] at h
                refine WL.nil ?_
                refine W.seq ?_
                refine W.region ?_
                refine WL.val run_move rfl rfl ?_
                refine WL.val run_move rfl rfl ?_
                refine WL.val (run_buildS (pl := [(0, 1), (1, 1), (2, 1), (3, 1), (4, 1), (5, 1), (6, 1), (7, 1)]) (out := [.int .i64 _, .int .i64 _, .int .i64 _, .slice _ _ _, .int .u64 _, .int .u64 _, .int .i64 _, .bool _]) Tryz.underlying25 Tryz.zeroValue25 (fun w => by kernel_rfl) rfl (⟨⟨_, _, rfl, rfl, by decide⟩, trivial⟩) rfl) rfl rfl ?_
                refine WL.eff (eff_call Tryz.call13 (do_ok (hh := ((j : Nat) : Int)) (kind := 18) (at_ := 0) (n := 0) (data := []) (key := 0) (new := 0) (typ := 0) (force := false) (u := (newU 4)) (by decide) (hn4).2 (hn4).1 (h.fetch (UnP 84 146 152 bu [] ms (newU 4))) Gives.nilB (by decide))) rfl rfl ?_
                rintro _ w ⟨u1_, r1_, dv57, he, rfl, h⟩
                have he := he.symm.trans (at_do1 hj)
                simp only [Prod.mk.injEq] at he
                obtain ⟨rfl, rfl⟩ := he
                have of_ := Own.form h
                obtain ⟨ad57, cd57, hdv, _⟩ := of_
                subst hdv
                have h : On W0 (OwnB (.slice ad57 ([] : List UInt8).length cd57) ([] : List UInt8) :: _) w := h
                refine WL.nil ?_
                refine W.seq ?_
                refine W.region ?_
                refine WL.val run_move rfl rfl ?_
                refine WL.val run_move rfl rfl ?_
                refine WL.eff (eff_call Tryz.call17 (upending_ok (u := at1) (i := i) hi (by rw [hcod]; decide) (h.fetch (UnP 84 146 152 bu [] ms at1)))) rfl rfl ?_
                rintro v60 w ⟨a60, hv60, h⟩
                rw [hcod] at h hv60
                have h : On W0 (Own 1 (.slice a60 1 1) 1 [.int .i64 10499] :: _) w := h
                have hv60 : v60 = .slice a60 1 1 := hv60
                subst hv60
                have oa_ := Own.addr h (by decide)
                obtain ⟨b60, o60, ha60⟩ := oa_
                subst ha60
                refine WL.val run_assign rfl rfl ?_
                refine WL.nil ?_
                refine W.seq ?_
                refine W.region ?_
                refine WL.val run_move rfl rfl ?_
                refine WL.val run_move rfl rfl ?_
                refine WL.val (run_buildS (pl := [(0, 1), (1, 1), (2, 1), (3, 1), (4, 1), (5, 1), (6, 1), (7, 1)]) (out := [.int .i64 _, .int .i64 _, .int .i64 _, .slice _ _ _, .int .u64 _, .int .u64 _, .int .i64 _, .bool _]) Tryz.underlying25 Tryz.zeroValue25 (fun w => by kernel_rfl) rfl (⟨⟨_, _, rfl, rfl, by decide⟩, trivial⟩) rfl) rfl rfl ?_
                refine WL.eff (eff_call Tryz.call13 (do_ok (hh := ((i : Nat) : Int)) (kind := 8) (at_ := 0) (n := 0) (data := []) (key := 0) (new := 0) (typ := 0) (force := false) (u := at1) (by decide) (ha1).2 (ha1).1 (h.fetch (UnP 84 146 152 bu [] ms at1)) Gives.nilB (by decide))) rfl rfl ?_
                rintro _ w ⟨u1_, r1_, dv64, he, rfl, h⟩
                have he := he.symm.trans (at_do2 hi)
                simp only [Prod.mk.injEq] at he
                obtain ⟨rfl, rfl⟩ := he
                have of_ := Own.form h
                obtain ⟨ad64, cd64, hdv, _⟩ := of_
                subst hdv
                have h : On W0 (OwnB (.slice ad64 (inqB).length cd64) (inqB) :: _) w := h
                refine WL.eff (eff_alloc h Tryz.zeroValue36 rfl) rfl rfl ?_
                rintro _ w ⟨b13, rfl, h⟩
                refine WL.eff (eff_storeN (vs := [.int .i64 _, .int .i64 _, .int .i64 _, .slice _ _ _, .int .i64 _]) h Tryz.sizeOf36 rfl rfl rfl rfl rfl (fun k _ _ => free0 k)) rfl rfl ?_
                rintro _ w h
                try simp only [splice, List.take_zero, List.take_succ_cons, List.take_nil, List.drop_succ_cons, List.drop_zero, List.drop_nil, List.nil_append, List.cons_append, List.append_nil, List.length_cons, List.length_nil, Nat.zero_add, Nat.reduceAdd] at h
                refine WL.nil ?_
                refine W.seq ?_
                refine W.region ?_
                refine WL.val run_move rfl rfl ?_
                refine WL.val run_move rfl rfl ?_
                refine WL.val (run_loadB (vs := [.int .i64 _, .int .i64 _, .int .i64 _, .slice _ _ _, .int .u64 _, .int .u64 _, .int .i64 _, .bool _]) h Tryz.isAgg25 Tryz.sizeOf25 rfl rfl rfl) rfl rfl ?_
                refine WL.eff (eff_call Tryz.call13 (do_ok (hh := ((i : Nat) : Int)) (kind := 3) (at_ := ((p : Nat) : Int)) (n := 1) (data := data) (key := 0) (new := 0) (typ := 0) (force := false) (u := at1) (by decide) (ha1).2 (ha1).1 (h.fetch (UnP 84 146 152 bu [] ms at1)) (Gives.to C) (by omega))) rfl rfl ?_
                rintro _ w ⟨u1_, r1_, dv68, he, rfl, h⟩
                have he := he.symm.trans (at_do3 hi (by show (2 : Int) ≤ 3; decide) (by show (3 : Int) ≤ 6; decide))
                simp only [Prod.mk.injEq] at he
                obtain ⟨rfl, rfl⟩ := he
                have of_ := Own.form h
                obtain ⟨ad68, cd68, hdv, _⟩ := of_
                subst hdv
                have h : On W0 (OwnB (.slice ad68 ([] : List UInt8).length cd68) ([] : List UInt8) :: _) w := h
                refine WL.eff (eff_alloc h Tryz.zeroValue36 rfl) rfl rfl ?_
                rintro _ w ⟨b14, rfl, h⟩
                refine WL.eff (eff_storeN (vs := [.int .i64 _, .int .i64 _, .int .i64 _, .slice _ _ _, .int .i64 _]) h Tryz.sizeOf36 rfl rfl rfl rfl rfl (fun k _ _ => free0 k)) rfl rfl ?_
                rintro _ w h
                try simp only [splice, List.take_zero, List.take_succ_cons, List.take_nil, List.drop_succ_cons, List.drop_zero, List.drop_nil, List.nil_append, List.cons_append, List.append_nil, List.length_cons, List.length_nil, Nat.zero_add, Nat.reduceAdd] at h
                refine WL.nil ?_
                refine W.seq ?_
                refine W.region ?_
                refine WL.val run_move rfl rfl ?_
                refine WL.val run_move rfl rfl ?_
                refine WL.val run_move rfl rfl ?_
                refine WL.val (run_buildS (pl := [(0, 1), (1, 1), (2, 1), (3, 1), (4, 1), (5, 1), (6, 1), (7, 1)]) (out := [.int .i64 _, .int .i64 _, .int .i64 _, .slice _ _ _, .int .u64 _, .int .u64 _, .int .i64 _, .bool _]) Tryz.underlying25 Tryz.zeroValue25 (fun w => by kernel_rfl) rfl (⟨⟨_, _, rfl, rfl, by decide⟩, ⟨⟨_, _, rfl, rfl, by decide⟩, ⟨⟨_, _, rfl, rfl, by decide⟩, trivial⟩⟩⟩) rfl) rfl rfl ?_
                refine WL.eff (eff_call Tryz.call13 (do_ok (hh := ((i : Nat) : Int)) (kind := 2) (at_ := ((p : Nat) : Int)) (n := 1) (data := []) (key := 0) (new := 0) (typ := 0) (force := false) (u := (at2 i)) (by decide) (ha2).2 (ha2).1 (h.fetch (UnP 84 146 152 bu [] ms (at2 i))) Gives.nilB (by decide))) rfl rfl ?_
                rintro _ w ⟨u1_, r1_, dv73, he, rfl, h⟩
                have he := he.symm.trans (at_do4 hi hp3)
                simp only [Prod.mk.injEq] at he
                obtain ⟨rfl, rfl⟩ := he
                have of_ := Own.form h
                obtain ⟨ad73, cd73, hdv, _⟩ := of_
                subst hdv
                have h : On W0 (OwnB (.slice ad73 ((List.replicate 8 0 : List UInt8)).length cd73) ((List.replicate 8 0 : List UInt8)) :: _) w := h
                refine WL.eff (eff_alloc h Tryz.zeroValue36 rfl) rfl rfl ?_
                rintro _ w ⟨b15, rfl, h⟩
                refine WL.eff (eff_storeN (vs := [.int .i64 _, .int .i64 _, .int .i64 _, .slice _ _ _, .int .i64 _]) h Tryz.sizeOf36 rfl rfl rfl rfl rfl (fun k _ _ => free0 k)) rfl rfl ?_
                rintro _ w h
                try simp only [splice, List.take_zero, List.take_succ_cons, List.take_nil, List.drop_succ_cons, List.drop_zero, List.drop_nil, List.nil_append, List.cons_append, List.append_nil, List.length_cons, List.length_nil, Nat.zero_add, Nat.reduceAdd] at h
                refine WL.nil ?_
                refine W.seq ?_
                refine W.region ?_
                refine WL.val run_move rfl rfl ?_
                refine WL.val run_move rfl rfl ?_
                refine WL.val (run_loadB (vs := [.int .i64 _, .int .i64 _, .int .i64 _, .slice _ _ _, .int .u64 _, .int .u64 _, .int .i64 _, .bool _]) h Tryz.isAgg25 Tryz.sizeOf25 rfl rfl rfl) rfl rfl ?_
                refine WL.eff (eff_call Tryz.call13 (do_ok (hh := ((i : Nat) : Int)) (kind := 3) (at_ := ((p : Nat) : Int)) (n := 1) (data := data) (key := 0) (new := 0) (typ := 0) (force := false) (u := (at2 i)) (by decide) (ha2).2 (ha2).1 (h.fetch (UnP 84 146 152 bu [] ms (at2 i))) (Gives.to C) (by omega))) rfl rfl ?_
                rintro _ w ⟨u1_, r1_, dv77, he, rfl, h⟩
                have he := he.symm.trans (at_do5 hi hp3 hd8)
                simp only [Prod.mk.injEq] at he
                obtain ⟨rfl, rfl⟩ := he
                have of_ := Own.form h
                obtain ⟨ad77, cd77, hdv, _⟩ := of_
                subst hdv
                have h : On W0 (OwnB (.slice ad77 ([] : List UInt8).length cd77) ([] : List UInt8) :: _) w := h
                refine WL.eff (eff_alloc h Tryz.zeroValue36 rfl) rfl rfl ?_
                rintro _ w ⟨b16, rfl, h⟩
                refine WL.eff (eff_storeN (vs := [.int .i64 _, .int .i64 _, .int .i64 _, .slice _ _ _, .int .i64 _]) h Tryz.sizeOf36 rfl rfl rfl rfl rfl (fun k _ _ => free0 k)) rfl rfl ?_
                rintro _ w h
                try simp only [splice, List.take_zero, List.take_succ_cons, List.take_nil, List.drop_succ_cons, List.drop_zero, List.drop_nil, List.nil_append, List.cons_append, List.append_nil, List.length_cons, List.length_nil, Nat.zero_add, Nat.reduceAdd] at h
                refine WL.nil ?_
                refine W.seq ?_
                refine W.region ?_
                refine WL.val run_move rfl rfl ?_
                refine WL.val run_move rfl rfl ?_
                refine WL.val run_move rfl rfl ?_
                refine WL.val (run_buildS (pl := [(0, 1), (1, 1), (2, 1), (3, 1), (4, 1), (5, 1), (6, 1), (7, 1)]) (out := [.int .i64 _, .int .i64 _, .int .i64 _, .slice _ _ _, .int .u64 _, .int .u64 _, .int .i64 _, .bool _]) Tryz.underlying25 Tryz.zeroValue25 (fun w => by kernel_rfl) rfl (⟨⟨_, _, rfl, rfl, by decide⟩, ⟨⟨_, _, rfl, rfl, by decide⟩, ⟨⟨_, _, rfl, rfl, by decide⟩, trivial⟩⟩⟩) rfl) rfl rfl ?_
                refine WL.eff (eff_call Tryz.call13 (do_ok (hh := ((i : Nat) : Int)) (kind := 2) (at_ := ((p : Nat) : Int)) (n := 1) (data := []) (key := 0) (new := 0) (typ := 0) (force := false) (u := ((at2 i).setS (writeS (newS 4) p data))) (by decide) (ha5).2 (ha5).1 (h.fetch (UnP 84 146 152 bu [] ms ((at2 i).setS (writeS (newS 4) p data)))) Gives.nilB (by decide))) rfl rfl ?_
                rintro _ w ⟨u1_, r1_, dv82, he, rfl, h⟩
                have he := he.symm.trans (at_do6 hi hp3 hd8)
                simp only [Prod.mk.injEq] at he
                obtain ⟨rfl, rfl⟩ := he
                have of_ := Own.form h
                obtain ⟨ad82, cd82, hdv, _⟩ := of_
                subst hdv
                have h : On W0 (OwnB (.slice ad82 (data).length cd82) (data) :: _) w := h
                refine WL.eff (eff_alloc h Tryz.zeroValue36 rfl) rfl rfl ?_
                rintro _ w ⟨b17, rfl, h⟩
                refine WL.eff (eff_storeN (vs := [.int .i64 _, .int .i64 _, .int .i64 _, .slice _ _ _, .int .i64 _]) h Tryz.sizeOf36 rfl rfl rfl rfl rfl (fun k _ _ => free0 k)) rfl rfl ?_
                rintro _ w h
                try simp only [splice, List.take_zero, List.take_succ_cons, List.take_nil, List.drop_succ_cons, List.drop_zero, List.drop_nil, List.nil_append, List.cons_append, List.append_nil, List.length_cons, List.length_nil, Nat.zero_add, Nat.reduceAdd] at h
                refine WL.nil ?_
                refine W.seq ?_
                refine W.draw Tryz.follows h (fun w h => ?_)
                refine WT.pure 0 rfl (by kernel_rfl) (fun w' => run_move) rfl rfl ?_
                refine WT.pure 1 rfl (by kernel_rfl) (fun w' => (run_lenSlice Tryz.underlying43 rfl)) rfl rfl ?_
                refine WT.pure 2 rfl (by kernel_rfl) (fun w' => run_eqlT rfl rfl (rfl)) rfl rfl ?_
                refine WT.pure 3 rfl (by kernel_rfl) (fun w' => run_move) rfl rfl ?_
                refine WT.pure 4 rfl (by kernel_rfl) (fun w' => run_move) rfl rfl ?_
                refine WT.pure 5 rfl (by kernel_rfl) (fun w' => (run_indexAddr Tryz.underlying43 Tryz.sizeOf3 rfl rfl (by decide) (by decide))) rfl rfl ?_
                refine WT.load1 6 rfl (by kernel_rfl) Tryz.isAgg3 rfl ((h.cellsO (v := .slice (some ⟨b60, o60, none⟩) 1 1)).elem (i := 0) (vs := [.int .i64 10499]) (by decide) rfl 0 _ rfl) rfl rfl ?_
                refine WT.pure 7 rfl (by kernel_rfl) (fun w' => run_eqlT rfl rfl (rfl)) rfl rfl ?_
                refine WT.pure 8 rfl (by kernel_rfl) (fun w' => (run_pickT rfl)) rfl rfl ?_
                refine WT.pure 9 rfl (by kernel_rfl) (fun w' => run_move) rfl rfl ?_
                refine WT.pure 10 rfl (by kernel_rfl) (fun w' => (run_fieldAddr 0 Tryz.underlying36 rfl Tryz.sizeOf3 rfl rfl)) rfl rfl ?_
                refine WT.load1 11 rfl (by kernel_rfl) Tryz.isAgg3 rfl (h.cellB rfl) rfl rfl ?_
                refine WT.pure 12 rfl (by kernel_rfl) (fun w' => run_eqlT rfl rfl (rfl)) rfl rfl ?_
                refine WT.pure 13 rfl (by kernel_rfl) (fun w' => (run_pickT rfl)) rfl rfl ?_
                refine WT.pure 14 rfl (by kernel_rfl) (fun w' => run_move) rfl rfl ?_
                refine WT.pure 15 rfl (by kernel_rfl) (fun w' => (run_fieldAddr 3 Tryz.underlying36 rfl Tryz.sizeOf22 rfl rfl)) rfl rfl ?_
                refine WT.load1 16 rfl (by kernel_rfl) Tryz.isAgg22 rfl (h.cellB rfl) rfl rfl ?_
                refine WT.pure 17 rfl (by kernel_rfl) (fun w' => (run_lenSlice Tryz.underlying22 rfl)) rfl rfl ?_
                refine WT.pure 18 rfl (by kernel_rfl) (fun w' => run_eqlT rfl rfl (rfl)) rfl rfl ?_
                refine WT.pure 19 rfl (by kernel_rfl) (fun w' => (run_pickT rfl)) rfl rfl ?_
                refine WT.pure 20 rfl (by kernel_rfl) (fun w' => run_move) rfl rfl ?_
                refine WT.pure 21 rfl (by kernel_rfl) (fun w' => (run_fieldAddr 0 Tryz.underlying36 rfl Tryz.sizeOf3 rfl rfl)) rfl rfl ?_
                refine WT.load1 22 rfl (by kernel_rfl) Tryz.isAgg3 rfl (h.cellB rfl) rfl rfl ?_
                refine WT.pure 23 rfl (by kernel_rfl) (fun w' => run_eqlT rfl rfl (rfl)) rfl rfl ?_
                refine WT.pure 24 rfl (by kernel_rfl) (fun w' => (run_pickT rfl)) rfl rfl ?_
                refine WT.pure 25 rfl (by kernel_rfl) (fun w' => run_move) rfl rfl ?_
                refine WT.pure 26 rfl (by kernel_rfl) (fun w' => (run_fieldAddr 1 Tryz.underlying36 rfl Tryz.sizeOf3 rfl rfl)) rfl rfl ?_
                refine WT.load1 27 rfl (by kernel_rfl) Tryz.isAgg3 rfl (h.cellB rfl) rfl rfl ?_
                refine WT.pure 28 rfl (by kernel_rfl) (fun w' => run_eqlT rfl rfl (rfl)) rfl rfl ?_
                refine WT.pure 29 rfl (by kernel_rfl) (fun w' => (run_pickT rfl)) rfl rfl ?_
                refine WT.pure 30 rfl (by kernel_rfl) (fun w' => run_move) rfl rfl ?_
                refine WT.pure 31 rfl (by kernel_rfl) (fun w' => (run_fieldAddr 2 Tryz.underlying36 rfl Tryz.sizeOf3 rfl rfl)) rfl rfl ?_
                refine WT.load1 32 rfl (by kernel_rfl) Tryz.isAgg3 rfl (h.cellB rfl) rfl rfl ?_
                refine WT.pure 33 rfl (by kernel_rfl) (fun w' => run_eqlT rfl rfl (rfl)) rfl rfl ?_
                refine WT.pure 34 rfl (by kernel_rfl) (fun w' => (run_pickT rfl)) rfl rfl ?_
                refine WT.pure 35 rfl (by kernel_rfl) (fun w' => run_move) rfl rfl ?_
                refine WT.pure 36 rfl (by kernel_rfl) (fun w' => (run_fieldAddr 3 Tryz.underlying36 rfl Tryz.sizeOf22 rfl rfl)) rfl rfl ?_
                refine WT.load1 37 rfl (by kernel_rfl) Tryz.isAgg22 rfl (h.cellB rfl) rfl rfl ?_
                refine WT.take 38 (fun w => Bytes (.slice ad73 ((List.replicate 8 0 : List UInt8)).length cd73) ((List.replicate 8 0 : List UInt8)) (hp w)) rfl (by kernel_rfl) rfl rfl (h.cellsO (v := .slice ad73 ((List.replicate 8 0 : List UInt8)).length cd73)) (fun w' hC => run_bytesStr Tryz.underlying22 Tryz.underlying5 Tryz.underlying9 rfl hC) ?_
                refine WT.eff 39 [true, true, false, false, false, false, false, false] rfl (by kernel_rfl) (by kernel_rfl) (eff_make (n := 8) (bytes := 1) h (rfl) (rfl) Tryz.underlying22 rfl rfl rfl rfl rfl (by omega) (by omega)) rfl rfl ?_
                rintro _ w ⟨b122, rfl, h⟩
                refine ⟨⟨h.cellsO (v := .slice ad73 ((List.replicate 8 0 : List UInt8)).length cd73), h.cellB rfl, trivial⟩, ?_⟩
                refine WT.take 40 (fun w => Bytes (.slice (some ⟨b122, 0, none⟩) 8 8) ((List.replicate 8 0 : List UInt8)) (hp w)) rfl (by kernel_rfl) rfl rfl (h.cellsO (v := .slice (some ⟨b122, 0, none⟩) 8 8)) (fun w' hC => run_bytesStr Tryz.underlying22 Tryz.underlying5 Tryz.underlying9 rfl hC) ?_
                refine WT.pure 41 rfl (by kernel_rfl) (fun w' => run_eqlStrT rfl rfl (rfl)) rfl rfl ?_
                refine WT.pure 42 rfl (by kernel_rfl) (fun w' => (run_pickT rfl)) rfl rfl ?_
                refine WT.pure 43 rfl (by kernel_rfl) (fun w' => run_move) rfl rfl ?_
                refine WT.pure 44 rfl (by kernel_rfl) (fun w' => (run_fieldAddr 0 Tryz.underlying36 rfl Tryz.sizeOf3 rfl rfl)) rfl rfl ?_
                refine WT.load1 45 rfl (by kernel_rfl) Tryz.isAgg3 rfl (h.cellB rfl) rfl rfl ?_
                refine WT.pure 46 rfl (by kernel_rfl) (fun w' => run_eqlT rfl rfl (rfl)) rfl rfl ?_
                refine WT.pure 47 rfl (by kernel_rfl) (fun w' => (run_pickT rfl)) rfl rfl ?_
                refine WT.pure 48 rfl (by kernel_rfl) (fun w' => run_move) rfl rfl ?_
                refine WT.pure 49 rfl (by kernel_rfl) (fun w' => (run_fieldAddr 3 Tryz.underlying36 rfl Tryz.sizeOf22 rfl rfl)) rfl rfl ?_
                refine WT.load1 50 rfl (by kernel_rfl) Tryz.isAgg22 rfl (h.cellB rfl) rfl rfl ?_
                refine WT.take 51 (fun w => Bytes (.slice ad82 data.length cd82) (data) (hp w)) rfl (by kernel_rfl) rfl rfl (h.cellsO (v := .slice ad82 data.length cd82)) (fun w' hC => run_bytesStr Tryz.underlying22 Tryz.underlying5 Tryz.underlying9 rfl hC) ?_
                refine WT.pure 52 rfl (by kernel_rfl) (fun w' => run_move) rfl rfl ?_
                refine WT.take 53 (fun w => Bytes (.slice ad data.length cd) (data) (hp w)) rfl (by kernel_rfl) rfl rfl (h.readsTo C) (fun w' hC => run_bytesStr Tryz.underlying22 Tryz.underlying5 Tryz.underlying9 rfl hC) ?_
                refine WT.pure 54 rfl (by kernel_rfl) (fun w' => run_eqlStrT rfl rfl (rfl)) rfl rfl ?_
                refine WT.pure 55 rfl (by kernel_rfl) (fun w' => (run_pickT rfl)) rfl rfl ?_
                refine WT.pure 56 rfl (by kernel_rfl) (fun w' => run_move) rfl rfl ?_
                refine WT.pure 57 rfl (by kernel_rfl) (fun w' => run_move) rfl rfl ?_
                refine WT.pure 58 rfl (by kernel_rfl) (fun w' => run_move) rfl rfl ?_
                refine WT.eff 59 [false, false, false, false, false, false, false] rfl (by kernel_rfl) (by kernel_rfl) (eff_call Tryz.call17 (upending_ok (u := ((at2 i).setS (writeS (newS 4) p data))) (i := i) hi (by rw [show (Un.guest ((at2 i).setS (writeS (newS 4) p data)) i).codes = [] from at2_codes hi]; decide) (h.fetch (UnP 84 146 152 bu [] ms ((at2 i).setS (writeS (newS 4) p data)))))) rfl rfl ?_
                rintro v142 w ⟨a142, hv142, h⟩
                rw [show (Un.guest ((at2 i).setS (writeS (newS 4) p data)) i).codes = [] from at2_codes hi] at hv142
                subst hv142
                refine ⟨trivial, ?_⟩
                refine WT.pure 60 rfl (by kernel_rfl) (fun w' => (run_lenSlice Tryz.underlying43 rfl)) rfl rfl ?_
                refine WT.pure 61 rfl (by kernel_rfl) (fun w' => run_eqlT rfl rfl (rfl)) rfl rfl ?_
                refine WT.pure 62 rfl (by kernel_rfl) (fun w' => (run_pickT rfl)) rfl rfl ?_
                refine WT.pure 63 rfl (by kernel_rfl) (fun w' => run_assign) rfl rfl ?_
                refine WT.done (by kernel_rfl) ?_
                refine W.ret ?_
                refine bodyQ.r1 (v := .bool _) Tryz.results6 rfl ?_
                -- path FFFFFFF
                exact ⟨rfl, h.to⟩

end Go.Proofs.YtdpakoefdpmebaaGreat
