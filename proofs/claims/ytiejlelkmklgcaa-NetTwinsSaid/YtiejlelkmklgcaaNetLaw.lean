/-
  The contracts of layer 9's laws' own functions: known, few, same, Do. Lines of walks printed by a program of the prover's.
-/
import Derived.Test.YtiejlelkmklgcaaNet
import Derived.Test.YtiejlelkmklgcaaNetLaws
namespace Go.Proofs.Ytiejlelkmklgcaa
open Go Go.Sl Go.Sl.NetM
set_option linter.unusedVariables false
set_option linter.unusedSimpArgs false
set_option maxHeartbeats 4000000
variable {W0 w : World} {L F : List HProp}

theorem same_ok {f t : Int} {a : Option Addr} {c : Nat} {bs : List UInt8} (h : On W0 L w) (C : Gives L (Bytes (.slice a bs.length c) bs)) :
    Calls Try.prog 20 #[.agg #[.int .i64 f, .int .i64 t, .slice a bs.length c], .agg #[.int .i64 f, .int .i64 t, .string ⟨bs.toArray⟩]] w (Ret fun v w' => v = .bool true ∧ On W0 L w') := by
  refine enter Try.func20 rfl Try.ntmps20 rfl ?_
  refine W.seq ?_
  refine W.region ?_
  refine WL.eff (eff_box (v := .agg _) (l := [.int .i64 _, .int .i64 _, .slice _ _ _]) h rfl rfl) rfl rfl ?_
  rintro _ w ⟨b2, rfl, h⟩
  refine WL.eff (eff_box (v := .agg _) (l := [.int .i64 _, .int .i64 _, .string _]) h rfl rfl) rfl rfl ?_
  rintro _ w ⟨b3, rfl, h⟩
  refine WL.val run_assign rfl rfl ?_
  refine WL.nil ?_
  refine W.seq ?_
  refine W.region ?_
  refine WL.val (run_fieldAddr 0 Try.underlying33 rfl Try.sizeOf3 rfl rfl) rfl rfl ?_
  refine WL.val (run_load1 Try.isAgg3 rfl (h.cellB rfl)) rfl rfl ?_
  refine WL.val (run_fieldAddr 0 Try.underlying50 rfl Try.sizeOf3 rfl rfl) rfl rfl ?_
  refine WL.val (run_load1 Try.isAgg3 rfl (h.cellB rfl)) rfl rfl ?_
  refine WL.val (run_eqlT rfl rfl (rfl)) rfl rfl ?_
  refine WL.val run_move rfl rfl ?_
  refine WL.val (run_fieldAddr 1 Try.underlying33 rfl Try.sizeOf3 rfl rfl) rfl rfl ?_
  refine WL.val (run_load1 Try.isAgg3 rfl (h.cellB rfl)) rfl rfl ?_
  refine WL.val (run_fieldAddr 1 Try.underlying50 rfl Try.sizeOf3 rfl rfl) rfl rfl ?_
  refine WL.val (run_load1 Try.isAgg3 rfl (h.cellB rfl)) rfl rfl ?_
  refine WL.val (run_eqlT rfl rfl (rfl)) rfl rfl ?_
  refine WL.val (run_pickT rfl) rfl rfl ?_
  refine WL.val run_move rfl rfl ?_
  refine WL.val (run_fieldAddr 2 Try.underlying33 rfl Try.sizeOf30 rfl rfl) rfl rfl ?_
  refine WL.val (run_load1 Try.isAgg30 rfl (h.cellB rfl)) rfl rfl ?_
  refine WL.val (run_bytesStr Try.underlying30 Try.underlying5 Try.underlying9 rfl (h.readsTo C)) rfl rfl ?_
  refine WL.val (run_fieldAddr 2 Try.underlying50 rfl Try.sizeOf9 rfl rfl) rfl rfl ?_
  refine WL.val (run_load1 Try.isAgg9 rfl (h.cellB rfl)) rfl rfl ?_
  refine WL.val (run_eqlStr rfl rfl) rfl rfl ?_
  refine WL.val (run_pickT rfl) rfl rfl ?_
  refine WL.val run_assign rfl rfl ?_
  refine WL.nil ?_
  refine W.ret ?_
  refine bodyQ.r1 (v := .bool _) Try.results20 rfl ?_
  -- path 
  exact ⟨by simp, h.to⟩

theorem few_ok {al : Option Addr} {cl : Nat} {acts : List A} (h : On W0 L w) (C : Gives L (Cells 5 (.slice al acts.length cl) acts.length (acts.flatMap A.cells))) :
    Calls Try.prog 16 #[.slice al acts.length cl] w (Ret fun v w' => ∃ t : Bool, v = .bool t ∧ ((t = true ∧ acts.length ≤ 150 ∧ ∀ a ∈ acts, a.bs.length ≤ 8200) ∨ t = false) ∧ On W0 L w') := by
  refine enter Try.func16 rfl Try.ntmps16 rfl ?_
  obtain ⟨hc1, hc2⟩ := (h.reads C).bounds
  have hl := maxLen_eq
  refine W.seq ?_
  refine W.region ?_
  refine WL.val run_assign rfl rfl ?_
  refine WL.nil ?_
  refine W.seq ?_
  refine W.seq ?_
  refine W.region ?_
  refine WL.val run_move rfl rfl ?_
  refine WL.val (run_lenSlice Try.underlying37 rfl) rfl rfl ?_
  refine WL.val (run_gtr rfl rfl) rfl rfl ?_
  refine WL.nil ?_
  refine W.condIf rfl (fun c2 => ?_) (fun c2 => ?_)
  · skip
    refine W.seq ?_
    refine W.region ?_
    refine WL.val run_assign rfl rfl ?_
    refine WL.nil ?_
    refine W.ret ?_
    refine bodyQ.r1 (v := .bool _) Try.results16 rfl ?_
    -- path T
    exact ⟨false, rfl, .inr rfl, h⟩
  · skip
    refine W.skip ?_
    refine W.seq ?_
    refine W.seq ?_
    refine W.region ?_
    refine WL.val run_assign rfl rfl ?_
    refine WL.nil ?_
    refine W.block ?_
    refine W.loop (fun (k : Nat) env w => ∃ j, env = mkE j [(0, .slice al acts.length cl), (3, .int .i64 (k : Int))] ∧ k ≤ acts.length ∧ (∀ (i : Nat) a, i < k → acts[i]? = some a → a.bs.length ≤ 8200) ∧ On W0 L w) (fun k => acts.length - k) (0) ?_ ?_
    · exact ⟨_, mkE_of ⟨rfl, rfl, trivial⟩, Nat.zero_le _, by intro i a hi; omega, h⟩
    · rintro k env w ⟨j, rfl, hk, hno, h⟩
      refine W.seq ?_
      refine W.seq ?_
      refine W.region ?_
      refine WL.val run_move rfl rfl ?_
      refine WL.val run_move rfl rfl ?_
      refine WL.val (run_lenSlice Try.underlying37 rfl) rfl rfl ?_
      refine WL.val (run_lss rfl rfl) rfl rfl ?_
      refine WL.nil ?_
      refine W.condIf rfl (fun c10 => ?_) (fun c10 => ?_)
      · skip
        refine W.skip ?_
        refine W.seq ?_
        refine W.block ?_
        refine W.seq ?_
        have hkl : k < acts.length := by omega
        obtain ⟨bq, oq, hal⟩ := (h.reads C).addr (by omega)
        subst hal
        obtain ⟨⟨ao, af, at_, an, ax, ac, abs⟩, hq⟩ : ∃ a, acts[k]? = some a := ⟨acts[k], by simp⟩
        have hrow := drop_flatMap A.cells 5 A.cells_length acts _ _ hq
        refine W.region ?_
        refine WL.val run_move rfl rfl ?_
        refine WL.val run_move rfl rfl ?_
        refine WL.val (run_indexAddr Try.underlying37 Try.sizeOf44 rfl rfl (by omega) (by omega)) rfl rfl ?_
        refine WL.val (run_fieldAddr 4 Try.underlying44 rfl Try.sizeOf30 rfl rfl) rfl rfl ?_
        refine WL.val (run_load1 Try.isAgg30 rfl ((h.reads C).elem (i := k) (vs := [.int .i64 ao, .int .i64 af, .int .i64 at_, .int .i64 an, .slice ax abs.length ac]) (by omega) hrow 4 _ rfl)) rfl rfl ?_
        refine WL.val (run_lenSlice Try.underlying30 rfl) rfl rfl ?_
        refine WL.dec (run_gtr rfl rfl) rfl rfl (fun c19 => ?_) (fun c19 => ?_)
        · skip
          refine WL.val run_move rfl rfl ?_
          refine WL.val run_move rfl rfl ?_
          refine WL.val run_move rfl rfl ?_
          refine WL.val (run_indexAddr Try.underlying37 Try.sizeOf44 rfl rfl (by omega) (by omega)) rfl rfl ?_
          refine WL.val (run_fieldAddr 4 Try.underlying44 rfl Try.sizeOf30 rfl rfl) rfl rfl ?_
          refine WL.val (run_load1 Try.isAgg30 rfl ((h.reads C).elem (i := k) (vs := [.int .i64 ao, .int .i64 af, .int .i64 at_, .int .i64 an, .slice ax abs.length ac]) (by omega) hrow 4 _ rfl)) rfl rfl ?_
          refine WL.val (run_lenSlice Try.underlying30 rfl) rfl rfl ?_
          refine WL.dec (run_lss rfl rfl) rfl rfl (fun c27 => ?_) (fun c27 => ?_)
          · skip
            refine WL.val (run_pickT rfl) rfl rfl ?_
            refine WL.val run_move rfl rfl ?_
            refine WL.skip rfl rfl ?_
            refine WL.skip rfl rfl ?_
            refine WL.skip rfl rfl ?_
            refine WL.skip rfl rfl ?_
            refine WL.skip rfl rfl ?_
            refine WL.skip rfl rfl ?_
            refine WL.skip rfl rfl ?_
            refine WL.val (run_pickT rfl) rfl rfl ?_
            refine WL.nil ?_
            refine W.condT rfl ?_
            refine W.seq ?_
            refine W.region ?_
            refine WL.val run_assign rfl rfl ?_
            refine WL.nil ?_
            refine W.ret ?_
            refine bodyQ.r1 (v := .bool _) Try.results16 rfl ?_
            -- path FLTTT
            exact ⟨false, rfl, .inr rfl, h⟩
          · skip
            refine WL.val (run_pickT rfl) rfl rfl ?_
            refine WL.val run_move rfl rfl ?_
            refine WL.val run_move rfl rfl ?_
            refine WL.val run_move rfl rfl ?_
            refine WL.val (run_indexAddr Try.underlying37 Try.sizeOf44 rfl rfl (by omega) (by omega)) rfl rfl ?_
            refine WL.val (run_fieldAddr 4 Try.underlying44 rfl Try.sizeOf30 rfl rfl) rfl rfl ?_
            refine WL.val (run_load1 Try.isAgg30 rfl ((h.reads C).elem (i := k) (vs := [.int .i64 ao, .int .i64 af, .int .i64 at_, .int .i64 an, .slice ax abs.length ac]) (by omega) hrow 4 _ rfl)) rfl rfl ?_
            refine WL.val (run_lenSlice Try.underlying30 rfl) rfl rfl ?_
            refine WL.val (run_gtr rfl rfl) rfl rfl ?_
            refine WL.val (run_pickF rfl) rfl rfl ?_
            refine WL.nil ?_
            refine W.condIf rfl (fun c15 => ?_) (fun c15 => ?_)
            · skip
              refine W.seq ?_
              refine W.region ?_
              refine WL.val run_assign rfl rfl ?_
              refine WL.nil ?_
              refine W.ret ?_
              refine bodyQ.r1 (v := .bool _) Try.results16 rfl ?_
              -- path FLTTFT
              exact ⟨false, rfl, .inr rfl, h⟩
            · skip
              refine W.skip ?_
              refine W.region ?_
              refine WL.val run_move rfl rfl ?_
              refine WL.val (run_add rfl rfl (by omega) (by omega)) rfl rfl ?_
              refine WL.val run_assign rfl rfl ?_
              refine WL.nil ?_
              -- round, path FLTTFF
              exact ⟨k + 1, ⟨_, mkE_of ⟨rfl, rfl, trivial⟩, by omega, (by
                intro i a hi ha
                by_cases hik : i = k
                · subst hik; rw [hq] at ha; cases ha; show abs.length ≤ 8200; omega
                · exact hno i a (by omega) ha), h⟩, by show acts.length - (k + 1) < acts.length - k; omega⟩
        · skip
          refine WL.val run_move rfl rfl ?_
          refine WL.skip rfl rfl ?_
          refine WL.skip rfl rfl ?_
          refine WL.skip rfl rfl ?_
          refine WL.skip rfl rfl ?_
          refine WL.skip rfl rfl ?_
          refine WL.skip rfl rfl ?_
          refine WL.skip rfl rfl ?_
          refine WL.val (run_pickF rfl) rfl rfl ?_
          refine WL.val run_move rfl rfl ?_
          refine WL.val run_move rfl rfl ?_
          refine WL.val run_move rfl rfl ?_
          refine WL.val (run_indexAddr Try.underlying37 Try.sizeOf44 rfl rfl (by omega) (by omega)) rfl rfl ?_
          refine WL.val (run_fieldAddr 4 Try.underlying44 rfl Try.sizeOf30 rfl rfl) rfl rfl ?_
          refine WL.val (run_load1 Try.isAgg30 rfl ((h.reads C).elem (i := k) (vs := [.int .i64 ao, .int .i64 af, .int .i64 at_, .int .i64 an, .slice ax abs.length ac]) (by omega) hrow 4 _ rfl)) rfl rfl ?_
          refine WL.val (run_lenSlice Try.underlying30 rfl) rfl rfl ?_
          refine WL.val (run_gtr rfl rfl) rfl rfl ?_
          refine WL.val (run_pickF rfl) rfl rfl ?_
          refine WL.nil ?_
          refine W.condIf rfl (fun c15 => ?_) (fun c15 => ?_)
          · skip
            refine W.seq ?_
            refine W.region ?_
            refine WL.val run_assign rfl rfl ?_
            refine WL.nil ?_
            refine W.ret ?_
            refine bodyQ.r1 (v := .bool _) Try.results16 rfl ?_
            -- path FLTFT
            exact ⟨false, rfl, .inr rfl, h⟩
          · skip
            refine W.skip ?_
            refine W.region ?_
            refine WL.val run_move rfl rfl ?_
            refine WL.val (run_add rfl rfl (by omega) (by omega)) rfl rfl ?_
            refine WL.val run_assign rfl rfl ?_
            refine WL.nil ?_
            -- round, path FLTFF
            exact ⟨k + 1, ⟨_, mkE_of ⟨rfl, rfl, trivial⟩, by omega, (by
              intro i a hi ha
              by_cases hik : i = k
              · subst hik; rw [hq] at ha; cases ha; show abs.length ≤ 8200; omega
              · exact hno i a (by omega) ha), h⟩, by show acts.length - (k + 1) < acts.length - k; omega⟩
      · skip
        refine W.exit ?_
        refine W.seq ?_
        refine W.region ?_
        refine WL.val run_assign rfl rfl ?_
        refine WL.nil ?_
        refine W.ret ?_
        refine bodyQ.r1 (v := .bool _) Try.results16 rfl ?_
        -- path FLF
        exact ⟨true, rfl, .inl ⟨rfl, by omega, fun a ha => by
          obtain ⟨i, hi⟩ := List.getElem?_of_mem ha
          exact hno i a (by have := (List.getElem?_eq_some_iff.1 hi).1; omega) hi⟩, h⟩

theorem do_ok {b b' : Nat} {m : St} {pool : List (Value × List UInt8)} {a : A} (h : On W0 (NetP 58 b m pool :: RefP 47 b' m :: Pool pool :: F) w) (C : Gives F (Bytes (.slice a.ax a.bs.length a.ac) a.bs)) (hs0 : 0 ≤ m.s) (hs1 : m.s ≤ 1000000000000000000) :
    Calls Try.prog 18 #[.pointer (some ⟨b, 0, none⟩), .pointer (some ⟨b', 0, none⟩), .agg #[.int .i64 a.op, .int .i64 a.f, .int .i64 a.t, .int .i64 a.n, .slice a.ax a.bs.length a.ac]] w (Ret fun v w' => v = .bool true ∧
      ∃ pool', (∀ p ∈ pool, p ∈ pool') ∧ On W0 (NetP 58 b (act m a) pool' :: RefP 47 b' (act m a) :: Pool pool' :: F) w') := by
  refine enter Try.func18 rfl Try.ntmps18 rfl ?_
  obtain ⟨ao, af, at_, an, ax, ac, abs⟩ := a
  refine W.seq ?_
  refine W.region ?_
  refine WL.eff (eff_box (v := .agg _) (l := [.int .i64 _, .int .i64 _, .int .i64 _, .int .i64 _, .slice _ _ _]) h rfl rfl) rfl rfl ?_
  rintro _ w ⟨b5, rfl, h⟩
  refine WL.val run_assign rfl rfl ?_
  refine WL.nil ?_
  refine W.seq ?_
  refine W.seq ?_
  refine W.region ?_
  refine WL.val (run_fieldAddr 0 Try.underlying44 rfl Try.sizeOf3 rfl rfl) rfl rfl ?_
  refine WL.val (run_load1 Try.isAgg3 rfl (h.cellB rfl)) rfl rfl ?_
  refine WL.nil ?_
  refine W.block ?_
  refine W.seq ?_
  refine W.region ?_
  refine WL.val (run_eql rfl rfl) rfl rfl ?_
  refine WL.val run_assign rfl rfl ?_
  refine WL.nil ?_
  refine W.condIf rfl (fun c4 => ?_) (fun c4 => ?_)
  · skip
    refine W.seq ?_
    refine W.draw Try.follows h (fun w h => ?_)
    refine WT.pure 0 rfl (by kernel_rfl) (fun w' => run_move) rfl rfl ?_
    refine WT.pure 1 rfl (by kernel_rfl) (fun w' => (run_fieldAddr 1 Try.underlying44 rfl Try.sizeOf3 rfl rfl)) rfl rfl ?_
    refine WT.load1 2 rfl (by kernel_rfl) Try.isAgg3 rfl (h.cellB rfl) rfl rfl ?_
    refine WT.pure 3 rfl (by kernel_rfl) (fun w' => (run_fieldAddr 2 Try.underlying44 rfl Try.sizeOf3 rfl rfl)) rfl rfl ?_
    refine WT.load1 4 rfl (by kernel_rfl) Try.isAgg3 rfl (h.cellB rfl) rfl rfl ?_
    refine WT.pure 5 rfl (by kernel_rfl) (fun w' => (run_fieldAddr 4 Try.underlying44 rfl Try.sizeOf30 rfl rfl)) rfl rfl ?_
    refine WT.load1 6 rfl (by kernel_rfl) Try.isAgg30 rfl (h.cellB rfl) rfl rfl ?_
    refine WT.pure 8 rfl (by kernel_rfl) (fun w' => run_move) rfl rfl ?_
    refine WT.pure 9 rfl (by kernel_rfl) (fun w' => (run_fieldAddr 1 Try.underlying44 rfl Try.sizeOf3 rfl rfl)) rfl rfl ?_
    refine WT.load1 10 rfl (by kernel_rfl) Try.isAgg3 rfl (h.cellB rfl) rfl rfl ?_
    refine WT.pure 11 rfl (by kernel_rfl) (fun w' => (run_fieldAddr 2 Try.underlying44 rfl Try.sizeOf3 rfl rfl)) rfl rfl ?_
    refine WT.load1 12 rfl (by kernel_rfl) Try.isAgg3 rfl (h.cellB rfl) rfl rfl ?_
    refine WT.pure 13 rfl (by kernel_rfl) (fun w' => (run_fieldAddr 4 Try.underlying44 rfl Try.sizeOf30 rfl rfl)) rfl rfl ?_
    refine WT.load1 14 rfl (by kernel_rfl) Try.isAgg30 rfl (h.cellB rfl) rfl rfl ?_
    refine WT.eff 7 [true, true, true, false, false, false] rfl (by kernel_rfl) (by kernel_rfl) (eff_call Try.call11 (send_ok ((h.fetch (Pool pool)).fetch (NetP 58 b m pool)) (Gives.to C) hs0 hs1)) rfl rfl ?_
    rintro _ w ⟨rfl, pool', hsub, h⟩
    refine ⟨⟨h.cellB rfl, h.cellB rfl, h.cellB rfl, trivial⟩, ?_⟩
    refine WT.eff 15 [false, false, false] rfl (by kernel_rfl) (by kernel_rfl) (eff_call Try.call28 (rsend_ok (h.fetch (RefP 47 b' m)) (Gives.to C) hs0 hs1)) rfl rfl ?_
    rintro _ w ⟨rfl, h⟩
    refine ⟨trivial, ?_⟩
    refine WT.pure 16 rfl (by kernel_rfl) (fun w' => (run_eql rfl rfl)) rfl rfl ?_
    refine WT.pure 17 rfl (by kernel_rfl) (fun w' => run_assign) rfl rfl ?_
    refine WT.done (by kernel_rfl) ?_
    refine W.ret ?_
    refine bodyQ.r1 (v := .bool _) Try.results18 rfl ?_
    -- path T
    refine ⟨by simp, pool', hsub, ?_⟩
    have e : act m ⟨ao, af, at_, an, ax, ac, abs⟩ = send m af at_ abs := by unfold act; rw [if_pos c4]
    rw [e]
    exact h.to
  · skip
    refine W.seq ?_
    refine W.region ?_
    refine WL.val (run_eql rfl rfl) rfl rfl ?_
    refine WL.val run_assign rfl rfl ?_
    refine WL.nil ?_
    refine W.condIf rfl (fun c8 => ?_) (fun c8 => ?_)
    · skip
      refine W.seq ?_
      refine W.region ?_
      refine WL.val run_move rfl rfl ?_
      refine WL.val (run_fieldAddr 3 Try.underlying44 rfl Try.sizeOf3 rfl rfl) rfl rfl ?_
      refine WL.val (run_load1 Try.isAgg3 rfl (h.cellB rfl)) rfl rfl ?_
      refine WL.eff (eff_call Try.call22 (deliver_ok ((h.fetch (Pool pool)).fetch (NetP 58 b m pool)))) rfl rfl ?_
      rintro _ w hR
      rcases hR.elim with ⟨⟨pf, pt, pbs⟩, a, c, hat, rfl, h⟩ | ⟨hat, rfl, h⟩
      · skip
        refine WL.val run_move rfl rfl ?_
        refine WL.val (run_extract rfl rfl) rfl rfl ?_
        refine WL.val (run_extract rfl rfl) rfl rfl ?_
        refine WL.eff (eff_alloc h Try.zeroValue33 rfl) rfl rfl ?_
        rintro _ w ⟨b7, rfl, h⟩
        refine WL.eff (eff_storeN (vs := [.int .i64 _, .int .i64 _, .slice _ _ _]) h Try.sizeOf33 rfl rfl rfl rfl rfl (fun k _ _ => free0 k)) rfl rfl ?_
        rintro _ w h
        try simp only [splice, List.take_zero, List.take_succ_cons, List.take_nil, List.drop_succ_cons, List.drop_zero, List.drop_nil, List.nil_append, List.cons_append, List.append_nil, List.length_cons, List.length_nil, Nat.zero_add, Nat.reduceAdd] at h
        refine WL.val run_assign rfl rfl ?_
        refine WL.nil ?_
        refine W.seq ?_
        refine W.region ?_
        refine WL.val run_move rfl rfl ?_
        refine WL.val (run_fieldAddr 3 Try.underlying44 rfl Try.sizeOf3 rfl rfl) rfl rfl ?_
        refine WL.val (run_load1 Try.isAgg3 rfl (h.cellB rfl)) rfl rfl ?_
        refine WL.eff (eff_call Try.call29 (rout_ok (h.fetch (RefP 47 b' m)))) rfl rfl ?_
        rintro _ w ⟨hv, h⟩
        rw [hat] at hv
        subst hv
        refine WL.val run_move rfl rfl ?_
        refine WL.val (run_extract rfl rfl) rfl rfl ?_
        refine WL.val (run_extract rfl rfl) rfl rfl ?_
        refine WL.eff (eff_alloc h Try.zeroValue50 rfl) rfl rfl ?_
        rintro _ w ⟨b9, rfl, h⟩
        refine WL.eff (eff_storeN (vs := [.int .i64 _, .int .i64 _, .string _]) h Try.sizeOf50 rfl rfl rfl rfl rfl (fun k _ _ => free0 k)) rfl rfl ?_
        rintro _ w h
        try simp only [splice, List.take_zero, List.take_succ_cons, List.take_nil, List.drop_succ_cons, List.drop_zero, List.drop_nil, List.nil_append, List.cons_append, List.append_nil, List.length_cons, List.length_nil, Nat.zero_add, Nat.reduceAdd] at h
        refine WL.val run_assign rfl rfl ?_
        refine WL.nil ?_
        refine W.seq ?_
        refine W.region ?_
        refine WL.val (run_loadB (vs := [.int .i64 _, .int .i64 _, .slice _ _ _]) h Try.isAgg33 Try.sizeOf33 rfl rfl rfl) rfl rfl ?_
        refine WL.val (run_loadB (vs := [.int .i64 _, .int .i64 _, .string _]) h Try.isAgg50 Try.sizeOf50 rfl rfl rfl) rfl rfl ?_
        refine WL.eff (eff_call Try.call20 (same_ok h (Gives.ownO (v := .slice a pbs.length c)))) rfl rfl ?_
        rintro _ w ⟨rfl, h⟩
        refine WL.val run_move rfl rfl ?_
        refine WL.val run_move rfl rfl ?_
        refine WL.val run_move rfl rfl ?_
        refine WL.val (run_eqlBool Try.underlying4 rfl rfl) rfl rfl ?_
        refine WL.val (run_pickT rfl) rfl rfl ?_
        refine WL.val run_assign rfl rfl ?_
        refine WL.nil ?_
        refine W.ret ?_
        refine bodyQ.r1 (v := .bool _) Try.results18 rfl ?_
        -- path FTT
        refine ⟨rfl, pool, fun _ h => h, ?_⟩
        have e : act m ⟨ao, af, at_, an, ax, ac, abs⟩ = out m an := by unfold act; rw [if_neg c4, if_pos c8]
        rw [e]
        exact h.to
      · skip
        refine WL.val run_move rfl rfl ?_
        refine WL.val (run_extract rfl rfl) rfl rfl ?_
        refine WL.val (run_extract rfl rfl) rfl rfl ?_
        refine WL.eff (eff_alloc h Try.zeroValue33 rfl) rfl rfl ?_
        rintro _ w ⟨b7, rfl, h⟩
        refine WL.eff (eff_storeN (vs := [.int .i64 _, .int .i64 _, .slice _ _ _]) h Try.sizeOf33 rfl rfl rfl rfl rfl (fun k _ _ => free0 k)) rfl rfl ?_
        rintro _ w h
        try simp only [splice, List.take_zero, List.take_succ_cons, List.take_nil, List.drop_succ_cons, List.drop_zero, List.drop_nil, List.nil_append, List.cons_append, List.append_nil, List.length_cons, List.length_nil, Nat.zero_add, Nat.reduceAdd] at h
        refine WL.val run_assign rfl rfl ?_
        refine WL.nil ?_
        refine W.seq ?_
        refine W.region ?_
        refine WL.val run_move rfl rfl ?_
        refine WL.val (run_fieldAddr 3 Try.underlying44 rfl Try.sizeOf3 rfl rfl) rfl rfl ?_
        refine WL.val (run_load1 Try.isAgg3 rfl (h.cellB rfl)) rfl rfl ?_
        refine WL.eff (eff_call Try.call29 (rout_ok (h.fetch (RefP 47 b' m)))) rfl rfl ?_
        rintro _ w ⟨hv, h⟩
        rw [hat] at hv
        subst hv
        refine WL.val run_move rfl rfl ?_
        refine WL.val (run_extract rfl rfl) rfl rfl ?_
        refine WL.val (run_extract rfl rfl) rfl rfl ?_
        refine WL.eff (eff_alloc h Try.zeroValue50 rfl) rfl rfl ?_
        rintro _ w ⟨b9, rfl, h⟩
        refine WL.eff (eff_storeN (vs := [.int .i64 _, .int .i64 _, .string _]) h Try.sizeOf50 rfl rfl rfl rfl rfl (fun k _ _ => free0 k)) rfl rfl ?_
        rintro _ w h
        try simp only [splice, List.take_zero, List.take_succ_cons, List.take_nil, List.drop_succ_cons, List.drop_zero, List.drop_nil, List.nil_append, List.cons_append, List.append_nil, List.length_cons, List.length_nil, Nat.zero_add, Nat.reduceAdd] at h
        refine WL.val run_assign rfl rfl ?_
        refine WL.nil ?_
        refine W.seq ?_
        refine W.region ?_
        refine WL.val (run_loadB (vs := [.int .i64 _, .int .i64 _, .slice _ _ _]) h Try.isAgg33 Try.sizeOf33 rfl rfl rfl) rfl rfl ?_
        refine WL.val (run_loadB (vs := [.int .i64 _, .int .i64 _, .string _]) h Try.isAgg50 Try.sizeOf50 rfl rfl rfl) rfl rfl ?_
        refine WL.eff (eff_call Try.call20 (same_ok (bs := []) h Gives.nilB)) rfl rfl ?_
        rintro _ w ⟨rfl, h⟩
        refine WL.val run_move rfl rfl ?_
        refine WL.val run_move rfl rfl ?_
        refine WL.val run_move rfl rfl ?_
        refine WL.val (run_eqlBool Try.underlying4 rfl rfl) rfl rfl ?_
        refine WL.val (run_pickT rfl) rfl rfl ?_
        refine WL.val run_assign rfl rfl ?_
        refine WL.nil ?_
        refine W.ret ?_
        refine bodyQ.r1 (v := .bool _) Try.results18 rfl ?_
        -- path FTF
        refine ⟨rfl, pool, fun _ h => h, ?_⟩
        have e : act m ⟨ao, af, at_, an, ax, ac, abs⟩ = out m an := by unfold act; rw [if_neg c4, if_pos c8]
        rw [e]
        exact h.to
    · skip
      refine W.seq ?_
      refine W.region ?_
      refine WL.val (run_eql rfl rfl) rfl rfl ?_
      refine WL.val run_assign rfl rfl ?_
      refine WL.nil ?_
      refine W.condIf rfl (fun c14 => ?_) (fun c14 => ?_)
      · skip
        refine W.seq ?_
        refine W.region ?_
        refine WL.val run_move rfl rfl ?_
        refine WL.val (run_fieldAddr 3 Try.underlying44 rfl Try.sizeOf3 rfl rfl) rfl rfl ?_
        refine WL.val (run_load1 Try.isAgg3 rfl (h.cellB rfl)) rfl rfl ?_
        refine WL.eff (eff_call Try.call29 (rout_ok (h.fetch (RefP 47 b' m)))) rfl rfl ?_
        rintro _ w ⟨hv, h⟩
        rcases hat : at? m an with _ | p <;> rw [hat] at hv <;> subst hv
        rotate_left
        · skip
          refine WL.val run_move rfl rfl ?_
          refine WL.val (run_extract rfl rfl) rfl rfl ?_
          refine WL.val (run_extract rfl rfl) rfl rfl ?_
          refine WL.eff (eff_alloc h Try.zeroValue50 rfl) rfl rfl ?_
          rintro _ w ⟨b11, rfl, h⟩
          refine WL.eff (eff_storeN (vs := [.int .i64 _, .int .i64 _, .string _]) h Try.sizeOf50 rfl rfl rfl rfl rfl (fun k _ _ => free0 k)) rfl rfl ?_
          rintro _ w h
          try simp only [splice, List.take_zero, List.take_succ_cons, List.take_nil, List.drop_succ_cons, List.drop_zero, List.drop_nil, List.nil_append, List.cons_append, List.append_nil, List.length_cons, List.length_nil, Nat.zero_add, Nat.reduceAdd] at h
          refine WL.val run_assign rfl rfl ?_
          refine WL.nil ?_
          refine W.seq ?_
          refine W.region ?_
          refine WL.val run_move rfl rfl ?_
          refine WL.val (run_fieldAddr 3 Try.underlying44 rfl Try.sizeOf3 rfl rfl) rfl rfl ?_
          refine WL.val (run_load1 Try.isAgg3 rfl (h.cellB rfl)) rfl rfl ?_
          refine WL.eff (eff_call Try.call21 (drop_ok ((h.fetch (Pool pool)).fetch (NetP 58 b m pool)))) rfl rfl ?_
          rintro _ w ⟨rfl, h⟩
          refine WL.val run_move rfl rfl ?_
          refine WL.val (run_eqlBool Try.underlying4 rfl rfl) rfl rfl ?_
          refine WL.val run_assign rfl rfl ?_
          refine WL.nil ?_
          refine W.ret ?_
          refine bodyQ.r1 (v := .bool _) Try.results18 rfl ?_
          -- path FFTT
          refine ⟨by rw [hat]; rfl, pool, fun _ h => h, ?_⟩
          have e : act m ⟨ao, af, at_, an, ax, ac, abs⟩ = out m an := by unfold act; rw [if_neg c4, if_neg c8, if_pos c14]
          rw [e]
          exact h.to
        · skip
          refine WL.val run_move rfl rfl ?_
          refine WL.val (run_extract rfl rfl) rfl rfl ?_
          refine WL.val (run_extract rfl rfl) rfl rfl ?_
          refine WL.eff (eff_alloc h Try.zeroValue50 rfl) rfl rfl ?_
          rintro _ w ⟨b11, rfl, h⟩
          refine WL.eff (eff_storeN (vs := [.int .i64 _, .int .i64 _, .string _]) h Try.sizeOf50 rfl rfl rfl rfl rfl (fun k _ _ => free0 k)) rfl rfl ?_
          rintro _ w h
          try simp only [splice, List.take_zero, List.take_succ_cons, List.take_nil, List.drop_succ_cons, List.drop_zero, List.drop_nil, List.nil_append, List.cons_append, List.append_nil, List.length_cons, List.length_nil, Nat.zero_add, Nat.reduceAdd] at h
          refine WL.val run_assign rfl rfl ?_
          refine WL.nil ?_
          refine W.seq ?_
          refine W.region ?_
          refine WL.val run_move rfl rfl ?_
          refine WL.val (run_fieldAddr 3 Try.underlying44 rfl Try.sizeOf3 rfl rfl) rfl rfl ?_
          refine WL.val (run_load1 Try.isAgg3 rfl (h.cellB rfl)) rfl rfl ?_
          refine WL.eff (eff_call Try.call21 (drop_ok ((h.fetch (Pool pool)).fetch (NetP 58 b m pool)))) rfl rfl ?_
          rintro _ w ⟨rfl, h⟩
          refine WL.val run_move rfl rfl ?_
          refine WL.val (run_eqlBool Try.underlying4 rfl rfl) rfl rfl ?_
          refine WL.val run_assign rfl rfl ?_
          refine WL.nil ?_
          refine W.ret ?_
          refine bodyQ.r1 (v := .bool _) Try.results18 rfl ?_
          -- path FFTF
          refine ⟨by rw [hat]; rfl, pool, fun _ h => h, ?_⟩
          have e : act m ⟨ao, af, at_, an, ax, ac, abs⟩ = out m an := by unfold act; rw [if_neg c4, if_neg c8, if_pos c14]
          rw [e]
          exact h.to
      · skip
        refine W.seq ?_
        refine W.region ?_
        refine WL.val (run_eql rfl rfl) rfl rfl ?_
        refine WL.val run_assign rfl rfl ?_
        refine WL.nil ?_
        refine W.condIf rfl (fun c19 => ?_) (fun c19 => ?_)
        · skip
          refine W.seq ?_
          refine W.draw Try.follows h (fun w h => ?_)
          refine WT.pure 0 rfl (by kernel_rfl) (fun w' => run_move) rfl rfl ?_
          refine WT.pure 1 rfl (by kernel_rfl) (fun w' => (run_fieldAddr 3 Try.underlying44 rfl Try.sizeOf3 rfl rfl)) rfl rfl ?_
          refine WT.load1 2 rfl (by kernel_rfl) Try.isAgg3 rfl (h.cellB rfl) rfl rfl ?_
          refine WT.pure 4 rfl (by kernel_rfl) (fun w' => run_move) rfl rfl ?_
          refine WT.pure 5 rfl (by kernel_rfl) (fun w' => (run_fieldAddr 3 Try.underlying44 rfl Try.sizeOf3 rfl rfl)) rfl rfl ?_
          refine WT.load1 6 rfl (by kernel_rfl) Try.isAgg3 rfl (h.cellB rfl) rfl rfl ?_
          refine WT.eff 3 [true, false] rfl (by kernel_rfl) (by kernel_rfl) (eff_call Try.call14 (copy_ok ((h.fetch (Pool pool)).fetch (NetP 58 b m pool)))) rfl rfl ?_
          rintro _ w ⟨rfl, pool', hsub, h⟩
          refine ⟨⟨h.cellB rfl, trivial⟩, ?_⟩
          refine WT.eff 7 [false] rfl (by kernel_rfl) (by kernel_rfl) (eff_call Try.call30 (rcopy_ok (h.fetch (RefP 47 b' m)))) rfl rfl ?_
          rintro _ w ⟨rfl, h⟩
          refine ⟨trivial, ?_⟩
          refine WT.pure 8 rfl (by kernel_rfl) (fun w' => (run_eqlBool Try.underlying4 rfl rfl)) rfl rfl ?_
          refine WT.pure 9 rfl (by kernel_rfl) (fun w' => run_assign) rfl rfl ?_
          refine WT.done (by kernel_rfl) ?_
          refine W.ret ?_
          refine bodyQ.r1 (v := .bool _) Try.results18 rfl ?_
          -- path FFFT
          refine ⟨by simp, pool', hsub, ?_⟩
          have e : act m ⟨ao, af, at_, an, ax, ac, abs⟩ = copy m an := by unfold act; rw [if_neg c4, if_neg c8, if_neg c14, if_pos c19]
          rw [e]
          exact h.to
        · skip
          refine W.seq ?_
          refine W.region ?_
          refine WL.val (run_eql rfl rfl) rfl rfl ?_
          refine WL.val run_assign rfl rfl ?_
          refine WL.nil ?_
          refine W.condIf rfl (fun c23 => ?_) (fun c23 => ?_)
          · skip
            refine W.seq ?_
            refine W.region ?_
            refine WL.val run_move rfl rfl ?_
            refine WL.val (run_fieldAddr 2 Try.underlying44 rfl Try.sizeOf3 rfl rfl) rfl rfl ?_
            refine WL.val (run_load1 Try.isAgg3 rfl (h.cellB rfl)) rfl rfl ?_
            refine WL.eff (eff_call Try.call15 (take_ok ((h.fetch (Pool pool)).fetch (NetP 58 b m pool)))) rfl rfl ?_
            rintro _ w hR
            rcases hR.elim with ⟨⟨pf, pt, pbs⟩, a, c, hat, rfl, h⟩ | ⟨hat, rfl, h⟩
            · skip
              refine WL.val run_move rfl rfl ?_
              refine WL.val (run_extract rfl rfl) rfl rfl ?_
              refine WL.val (run_extract rfl rfl) rfl rfl ?_
              refine WL.eff (eff_alloc h Try.zeroValue33 rfl) rfl rfl ?_
              rintro _ w ⟨b13, rfl, h⟩
              refine WL.eff (eff_storeN (vs := [.int .i64 _, .int .i64 _, .slice _ _ _]) h Try.sizeOf33 rfl rfl rfl rfl rfl (fun k _ _ => free0 k)) rfl rfl ?_
              rintro _ w h
              try simp only [splice, List.take_zero, List.take_succ_cons, List.take_nil, List.drop_succ_cons, List.drop_zero, List.drop_nil, List.nil_append, List.cons_append, List.append_nil, List.length_cons, List.length_nil, Nat.zero_add, Nat.reduceAdd] at h
              refine WL.val run_assign rfl rfl ?_
              refine WL.nil ?_
              refine W.seq ?_
              refine W.region ?_
              refine WL.val run_move rfl rfl ?_
              refine WL.val (run_fieldAddr 2 Try.underlying44 rfl Try.sizeOf3 rfl rfl) rfl rfl ?_
              refine WL.val (run_load1 Try.isAgg3 rfl (h.cellB rfl)) rfl rfl ?_
              refine WL.eff (eff_call Try.call31 (rtake_ok (h.fetch (RefP 47 b' m)))) rfl rfl ?_
              rintro _ w ⟨hv, h⟩
              rw [hat] at hv
              subst hv
              refine WL.val run_move rfl rfl ?_
              refine WL.val (run_extract rfl rfl) rfl rfl ?_
              refine WL.val (run_extract rfl rfl) rfl rfl ?_
              refine WL.eff (eff_alloc h Try.zeroValue50 rfl) rfl rfl ?_
              rintro _ w ⟨b15, rfl, h⟩
              refine WL.eff (eff_storeN (vs := [.int .i64 _, .int .i64 _, .string _]) h Try.sizeOf50 rfl rfl rfl rfl rfl (fun k _ _ => free0 k)) rfl rfl ?_
              rintro _ w h
              try simp only [splice, List.take_zero, List.take_succ_cons, List.take_nil, List.drop_succ_cons, List.drop_zero, List.drop_nil, List.nil_append, List.cons_append, List.append_nil, List.length_cons, List.length_nil, Nat.zero_add, Nat.reduceAdd] at h
              refine WL.val run_assign rfl rfl ?_
              refine WL.nil ?_
              refine W.seq ?_
              refine W.region ?_
              refine WL.val (run_loadB (vs := [.int .i64 _, .int .i64 _, .slice _ _ _]) h Try.isAgg33 Try.sizeOf33 rfl rfl rfl) rfl rfl ?_
              refine WL.val (run_loadB (vs := [.int .i64 _, .int .i64 _, .string _]) h Try.isAgg50 Try.sizeOf50 rfl rfl rfl) rfl rfl ?_
              refine WL.eff (eff_call Try.call20 (same_ok h (Gives.ownO (v := .slice a pbs.length c)))) rfl rfl ?_
              rintro _ w ⟨rfl, h⟩
              refine WL.val run_move rfl rfl ?_
              refine WL.val run_move rfl rfl ?_
              refine WL.val run_move rfl rfl ?_
              refine WL.val (run_eqlBool Try.underlying4 rfl rfl) rfl rfl ?_
              refine WL.val (run_pickT rfl) rfl rfl ?_
              refine WL.val run_assign rfl rfl ?_
              refine WL.nil ?_
              refine W.ret ?_
              refine bodyQ.r1 (v := .bool _) Try.results18 rfl ?_
              -- path FFFFTT
              refine ⟨rfl, pool, fun _ h => h, ?_⟩
              have e : act m ⟨ao, af, at_, an, ax, ac, abs⟩ = out m (takeI m at_) := by unfold act; rw [if_neg c4, if_neg c8, if_neg c14, if_neg c19, if_pos c23]
              rw [e]
              exact h.to
            · skip
              refine WL.val run_move rfl rfl ?_
              refine WL.val (run_extract rfl rfl) rfl rfl ?_
              refine WL.val (run_extract rfl rfl) rfl rfl ?_
              refine WL.eff (eff_alloc h Try.zeroValue33 rfl) rfl rfl ?_
              rintro _ w ⟨b13, rfl, h⟩
              refine WL.eff (eff_storeN (vs := [.int .i64 _, .int .i64 _, .slice _ _ _]) h Try.sizeOf33 rfl rfl rfl rfl rfl (fun k _ _ => free0 k)) rfl rfl ?_
              rintro _ w h
              try simp only [splice, List.take_zero, List.take_succ_cons, List.take_nil, List.drop_succ_cons, List.drop_zero, List.drop_nil, List.nil_append, List.cons_append, List.append_nil, List.length_cons, List.length_nil, Nat.zero_add, Nat.reduceAdd] at h
              refine WL.val run_assign rfl rfl ?_
              refine WL.nil ?_
              refine W.seq ?_
              refine W.region ?_
              refine WL.val run_move rfl rfl ?_
              refine WL.val (run_fieldAddr 2 Try.underlying44 rfl Try.sizeOf3 rfl rfl) rfl rfl ?_
              refine WL.val (run_load1 Try.isAgg3 rfl (h.cellB rfl)) rfl rfl ?_
              refine WL.eff (eff_call Try.call31 (rtake_ok (h.fetch (RefP 47 b' m)))) rfl rfl ?_
              rintro _ w ⟨hv, h⟩
              rw [hat] at hv
              subst hv
              refine WL.val run_move rfl rfl ?_
              refine WL.val (run_extract rfl rfl) rfl rfl ?_
              refine WL.val (run_extract rfl rfl) rfl rfl ?_
              refine WL.eff (eff_alloc h Try.zeroValue50 rfl) rfl rfl ?_
              rintro _ w ⟨b15, rfl, h⟩
              refine WL.eff (eff_storeN (vs := [.int .i64 _, .int .i64 _, .string _]) h Try.sizeOf50 rfl rfl rfl rfl rfl (fun k _ _ => free0 k)) rfl rfl ?_
              rintro _ w h
              try simp only [splice, List.take_zero, List.take_succ_cons, List.take_nil, List.drop_succ_cons, List.drop_zero, List.drop_nil, List.nil_append, List.cons_append, List.append_nil, List.length_cons, List.length_nil, Nat.zero_add, Nat.reduceAdd] at h
              refine WL.val run_assign rfl rfl ?_
              refine WL.nil ?_
              refine W.seq ?_
              refine W.region ?_
              refine WL.val (run_loadB (vs := [.int .i64 _, .int .i64 _, .slice _ _ _]) h Try.isAgg33 Try.sizeOf33 rfl rfl rfl) rfl rfl ?_
              refine WL.val (run_loadB (vs := [.int .i64 _, .int .i64 _, .string _]) h Try.isAgg50 Try.sizeOf50 rfl rfl rfl) rfl rfl ?_
              refine WL.eff (eff_call Try.call20 (same_ok (bs := []) h Gives.nilB)) rfl rfl ?_
              rintro _ w ⟨rfl, h⟩
              refine WL.val run_move rfl rfl ?_
              refine WL.val run_move rfl rfl ?_
              refine WL.val run_move rfl rfl ?_
              refine WL.val (run_eqlBool Try.underlying4 rfl rfl) rfl rfl ?_
              refine WL.val (run_pickT rfl) rfl rfl ?_
              refine WL.val run_assign rfl rfl ?_
              refine WL.nil ?_
              refine W.ret ?_
              refine bodyQ.r1 (v := .bool _) Try.results18 rfl ?_
              -- path FFFFTF
              refine ⟨rfl, pool, fun _ h => h, ?_⟩
              have e : act m ⟨ao, af, at_, an, ax, ac, abs⟩ = out m (takeI m at_) := by unfold act; rw [if_neg c4, if_neg c8, if_neg c14, if_neg c19, if_pos c23]
              rw [e]
              exact h.to
          · skip
            refine W.skip ?_
            refine W.seq ?_
            refine W.region ?_
            refine WL.val run_move rfl rfl ?_
            refine WL.val (run_fieldAddr 3 Try.underlying44 rfl Try.sizeOf3 rfl rfl) rfl rfl ?_
            refine WL.val (run_load1 Try.isAgg3 rfl (h.cellB rfl)) rfl rfl ?_
            refine WL.eff (eff_call Try.call19 (packet_ok ((h.fetch (Pool pool)).fetch (NetP 58 b m pool)))) rfl rfl ?_
            rintro _ w hR
            rcases hR.elim with ⟨⟨pf, pt, pbs⟩, a, c, hat, rfl, h⟩ | ⟨hat, rfl, h⟩
            · skip
              refine WL.val run_move rfl rfl ?_
              refine WL.val (run_extract rfl rfl) rfl rfl ?_
              refine WL.val (run_extract rfl rfl) rfl rfl ?_
              refine WL.eff (eff_alloc h Try.zeroValue33 rfl) rfl rfl ?_
              rintro _ w ⟨b17, rfl, h⟩
              refine WL.eff (eff_storeN (vs := [.int .i64 _, .int .i64 _, .slice _ _ _]) h Try.sizeOf33 rfl rfl rfl rfl rfl (fun k _ _ => free0 k)) rfl rfl ?_
              rintro _ w h
              try simp only [splice, List.take_zero, List.take_succ_cons, List.take_nil, List.drop_succ_cons, List.drop_zero, List.drop_nil, List.nil_append, List.cons_append, List.append_nil, List.length_cons, List.length_nil, Nat.zero_add, Nat.reduceAdd] at h
              refine WL.val run_assign rfl rfl ?_
              refine WL.nil ?_
              refine W.seq ?_
              refine W.region ?_
              refine WL.val run_move rfl rfl ?_
              refine WL.val (run_fieldAddr 3 Try.underlying44 rfl Try.sizeOf3 rfl rfl) rfl rfl ?_
              refine WL.val (run_load1 Try.isAgg3 rfl (h.cellB rfl)) rfl rfl ?_
              refine WL.eff (eff_call Try.call32 (rat_ok (h.fetch (RefP 47 b' m)))) rfl rfl ?_
              rintro _ w ⟨hv, h⟩
              rw [hat] at hv
              subst hv
              refine WL.val run_move rfl rfl ?_
              refine WL.val (run_extract rfl rfl) rfl rfl ?_
              refine WL.val (run_extract rfl rfl) rfl rfl ?_
              refine WL.eff (eff_alloc h Try.zeroValue50 rfl) rfl rfl ?_
              rintro _ w ⟨b19, rfl, h⟩
              refine WL.eff (eff_storeN (vs := [.int .i64 _, .int .i64 _, .string _]) h Try.sizeOf50 rfl rfl rfl rfl rfl (fun k _ _ => free0 k)) rfl rfl ?_
              rintro _ w h
              try simp only [splice, List.take_zero, List.take_succ_cons, List.take_nil, List.drop_succ_cons, List.drop_zero, List.drop_nil, List.nil_append, List.cons_append, List.append_nil, List.length_cons, List.length_nil, Nat.zero_add, Nat.reduceAdd] at h
              refine WL.val run_assign rfl rfl ?_
              refine WL.nil ?_
              refine W.seq ?_
              refine W.region ?_
              refine WL.val (run_loadB (vs := [.int .i64 _, .int .i64 _, .slice _ _ _]) h Try.isAgg33 Try.sizeOf33 rfl rfl rfl) rfl rfl ?_
              refine WL.val (run_loadB (vs := [.int .i64 _, .int .i64 _, .string _]) h Try.isAgg50 Try.sizeOf50 rfl rfl rfl) rfl rfl ?_
              refine WL.eff (eff_call Try.call20 (same_ok h (Gives.ownO (v := .slice a pbs.length c)))) rfl rfl ?_
              rintro _ w ⟨rfl, h⟩
              refine WL.val run_move rfl rfl ?_
              refine WL.val run_move rfl rfl ?_
              refine WL.val run_move rfl rfl ?_
              refine WL.val (run_eqlBool Try.underlying4 rfl rfl) rfl rfl ?_
              refine WL.val (run_pickT rfl) rfl rfl ?_
              refine WL.val run_assign rfl rfl ?_
              refine WL.nil ?_
              refine W.ret ?_
              refine bodyQ.r1 (v := .bool _) Try.results18 rfl ?_
              -- path FFFFFT
              refine ⟨rfl, pool, fun _ h => h, ?_⟩
              have e : act m ⟨ao, af, at_, an, ax, ac, abs⟩ = m := by unfold act; rw [if_neg c4, if_neg c8, if_neg c14, if_neg c19, if_neg c23]
              rw [e]
              exact h.to
            · skip
              refine WL.val run_move rfl rfl ?_
              refine WL.val (run_extract rfl rfl) rfl rfl ?_
              refine WL.val (run_extract rfl rfl) rfl rfl ?_
              refine WL.eff (eff_alloc h Try.zeroValue33 rfl) rfl rfl ?_
              rintro _ w ⟨b17, rfl, h⟩
              refine WL.eff (eff_storeN (vs := [.int .i64 _, .int .i64 _, .slice _ _ _]) h Try.sizeOf33 rfl rfl rfl rfl rfl (fun k _ _ => free0 k)) rfl rfl ?_
              rintro _ w h
              try simp only [splice, List.take_zero, List.take_succ_cons, List.take_nil, List.drop_succ_cons, List.drop_zero, List.drop_nil, List.nil_append, List.cons_append, List.append_nil, List.length_cons, List.length_nil, Nat.zero_add, Nat.reduceAdd] at h
              refine WL.val run_assign rfl rfl ?_
              refine WL.nil ?_
              refine W.seq ?_
              refine W.region ?_
              refine WL.val run_move rfl rfl ?_
              refine WL.val (run_fieldAddr 3 Try.underlying44 rfl Try.sizeOf3 rfl rfl) rfl rfl ?_
              refine WL.val (run_load1 Try.isAgg3 rfl (h.cellB rfl)) rfl rfl ?_
              refine WL.eff (eff_call Try.call32 (rat_ok (h.fetch (RefP 47 b' m)))) rfl rfl ?_
              rintro _ w ⟨hv, h⟩
              rw [hat] at hv
              subst hv
              refine WL.val run_move rfl rfl ?_
              refine WL.val (run_extract rfl rfl) rfl rfl ?_
              refine WL.val (run_extract rfl rfl) rfl rfl ?_
              refine WL.eff (eff_alloc h Try.zeroValue50 rfl) rfl rfl ?_
              rintro _ w ⟨b19, rfl, h⟩
              refine WL.eff (eff_storeN (vs := [.int .i64 _, .int .i64 _, .string _]) h Try.sizeOf50 rfl rfl rfl rfl rfl (fun k _ _ => free0 k)) rfl rfl ?_
              rintro _ w h
              try simp only [splice, List.take_zero, List.take_succ_cons, List.take_nil, List.drop_succ_cons, List.drop_zero, List.drop_nil, List.nil_append, List.cons_append, List.append_nil, List.length_cons, List.length_nil, Nat.zero_add, Nat.reduceAdd] at h
              refine WL.val run_assign rfl rfl ?_
              refine WL.nil ?_
              refine W.seq ?_
              refine W.region ?_
              refine WL.val (run_loadB (vs := [.int .i64 _, .int .i64 _, .slice _ _ _]) h Try.isAgg33 Try.sizeOf33 rfl rfl rfl) rfl rfl ?_
              refine WL.val (run_loadB (vs := [.int .i64 _, .int .i64 _, .string _]) h Try.isAgg50 Try.sizeOf50 rfl rfl rfl) rfl rfl ?_
              refine WL.eff (eff_call Try.call20 (same_ok (bs := []) h Gives.nilB)) rfl rfl ?_
              rintro _ w ⟨rfl, h⟩
              refine WL.val run_move rfl rfl ?_
              refine WL.val run_move rfl rfl ?_
              refine WL.val run_move rfl rfl ?_
              refine WL.val (run_eqlBool Try.underlying4 rfl rfl) rfl rfl ?_
              refine WL.val (run_pickT rfl) rfl rfl ?_
              refine WL.val run_assign rfl rfl ?_
              refine WL.nil ?_
              refine W.ret ?_
              refine bodyQ.r1 (v := .bool _) Try.results18 rfl ?_
              -- path FFFFFF
              refine ⟨rfl, pool, fun _ h => h, ?_⟩
              have e : act m ⟨ao, af, at_, an, ax, ac, abs⟩ = m := by unfold act; rw [if_neg c4, if_neg c8, if_neg c14, if_neg c19, if_neg c23]
              rw [e]
              exact h.to


theorem waitingN {b : Nat} {m : St} {pool : List (Value × List UInt8)} (h : On W0 (NetP 58 b m pool :: L) w) : Calls Try.prog 12 #[.pointer (some ⟨b, 0, none⟩)] w (Ret fun v w' => v = .int .i64 (m.l.length : Int) ∧ On W0 (NetP 58 b m pool :: L) w') := by
  obtain ⟨qs, a, c, e1, e2, e3, e4, h⟩ := openN h
  refine (waiting_ok h).mono ?_
  rintro e w' ⟨v, rfl, rfl, h⟩
  exact ⟨_, rfl, by rw [← e1]; simp, closeN e1 e2 e3 e4 h⟩
theorem sentN {b : Nat} {m : St} {pool : List (Value × List UInt8)} (h : On W0 (NetP 58 b m pool :: L) w) : Calls Try.prog 13 #[.pointer (some ⟨b, 0, none⟩)] w (Ret fun v w' => v = .int .i64 m.s ∧ On W0 (NetP 58 b m pool :: L) w') := by
  obtain ⟨qs, a, c, e1, e2, e3, e4, h⟩ := openN h
  refine (sent_ok h).mono ?_
  rintro e w' ⟨v, rfl, rfl, h⟩
  exact ⟨_, rfl, rfl, closeN e1 e2 e3 e4 h⟩

theorem known_ok (h : On W0 F w) : Calls Try.prog 9 #[] w (Ret fun v w' => v = .bool true ∧ On W0 F w') := by
  refine enter Try.func9 rfl Try.ntmps9 rfl ?_
  refine W.seq ?_
  refine W.region ?_
  refine WL.val run_assign rfl rfl ?_
  refine WL.nil ?_
  refine W.seq ?_
  refine W.region ?_
  refine WL.eff (eff_call Try.call10 (new_ok h)) rfl rfl ?_
  rintro _ w (⟨hn, _, _⟩ | ⟨_, b, rfl, h⟩)
  · exfalso; omega
  have h := h.pool0
  refine WL.val run_move rfl rfl ?_
  refine WL.val (run_extract rfl rfl) rfl rfl ?_
  refine WL.val (run_extract rfl rfl) rfl rfl ?_
  refine WL.val run_assign rfl rfl ?_
  refine WL.val run_assign rfl rfl ?_
  refine WL.nil ?_
  refine W.seq ?_
  refine W.seq ?_
  refine W.region ?_
  refine WL.val run_move rfl rfl ?_
  refine WL.val (run_neqF rfl rfl (rfl)) rfl rfl ?_
  refine WL.val run_move rfl rfl ?_
  refine WL.val run_move rfl rfl ?_
  refine WL.val (run_eqlPtrNil Try.underlying23 rfl rfl) rfl rfl ?_
  refine WL.val (run_pickF rfl) rfl rfl ?_
  refine WL.nil ?_
  refine W.condF rfl ?_
  refine W.skip ?_
  refine W.seq ?_
  refine W.region ?_
  refine WL.val run_move rfl rfl ?_
  refine WL.eff (eff_mkSlice (zl := [.int .u8 0]) (out := [.int .u8 _]) h Try.underlying30 Try.sizeOf5 Try.zeroValue5 (by decide) (by kernel_rfl) rfl rfl (by simp) (⟨⟨_, _, rfl, rfl, by decide⟩, trivial⟩) rfl rfl (by simp [maxLen])) rfl rfl ?_
  rintro _ w ⟨b20, rfl, h⟩
  refine WL.eff (eff_ofString h rfl (by omega) Try.underlying30 Try.underlying5) rfl rfl ?_
  rintro _ w ⟨rfl, h⟩
  refine WL.eff (eff_call Try.call11 (send_ok (bs := [97]) ((h.fetch (Pool [])).fetch (NetP 58 b ⟨2, [], 0⟩ [])) Gives.ownO (by simp) (by simp))) rfl rfl ?_
  rintro _ w ⟨rfl, pool, _, h⟩
  have e1 : send ⟨2, [], 0⟩ 0 1 [97] = ⟨2, [⟨0, 1, [97]⟩], 1⟩ := rfl
  rw [e1] at h
  refine WL.val run_assign rfl rfl ?_
  refine WL.nil ?_
  refine W.seq ?_
  refine W.region ?_
  refine WL.val run_move rfl rfl ?_
  refine WL.eff (eff_call Try.call14 (copy_ok h)) rfl rfl ?_
  rintro _ w ⟨hv, pool2, _, h⟩
  have e2 : copy ⟨2, [⟨0, 1, [97]⟩], 1⟩ 0 = ⟨2, [⟨0, 1, [97]⟩, ⟨0, 1, [97]⟩], 1⟩ := rfl
  rw [e2] at h
  have e3 : copyOk ⟨2, [⟨0, 1, [97]⟩], 1⟩ 0 = true := rfl
  rw [e3] at hv
  subst hv
  refine WL.val run_assign rfl rfl ?_
  refine WL.nil ?_
  refine W.seq ?_
  refine W.region ?_
  refine WL.val run_move rfl rfl ?_
  refine WL.eff (eff_call Try.call22 (deliver_ok h)) rfl rfl ?_
  rintro _ w hR
  have e4 : at? ⟨2, [⟨0, 1, [97]⟩, ⟨0, 1, [97]⟩], 1⟩ 0 = some ⟨0, 1, [97]⟩ := rfl
  have e5 : out ⟨2, [⟨0, 1, [97]⟩, ⟨0, 1, [97]⟩], 1⟩ 0 = ⟨2, [⟨0, 1, [97]⟩], 1⟩ := rfl
  rw [e4, e5] at hR
  obtain ⟨a1, c1, rfl, h⟩ := hR
  refine WL.val run_move rfl rfl ?_
  refine WL.val (run_extract rfl rfl) rfl rfl ?_
  refine WL.val (run_extract rfl rfl) rfl rfl ?_
  refine WL.eff (eff_alloc h Try.zeroValue33 rfl) rfl rfl ?_
  rintro _ w ⟨b5, rfl, h⟩
  refine WL.eff (eff_storeN (vs := [.int .i64 _, .int .i64 _, .slice _ _ _]) h Try.sizeOf33 rfl rfl rfl rfl rfl (fun k _ _ => free0 k)) rfl rfl ?_
  rintro _ w h
  try simp only [splice, List.take_zero, List.take_succ_cons, List.take_nil, List.drop_succ_cons, List.drop_zero, List.drop_nil, List.nil_append, List.cons_append, List.append_nil, List.length_cons, List.length_nil, Nat.zero_add, Nat.reduceAdd] at h
  refine WL.val run_assign rfl rfl ?_
  refine WL.nil ?_
  refine W.seq ?_
  refine W.region ?_
  refine WL.val run_move rfl rfl ?_
  refine WL.eff (eff_call Try.call15 (take_ok ((h.fetch (Pool pool2)).fetch (NetP 58 b ⟨2, [⟨0, 1, [97]⟩], 1⟩ pool2)))) rfl rfl ?_
  rintro _ w hR
  have e6 : at? ⟨2, [⟨0, 1, [97]⟩], 1⟩ (takeI ⟨2, [⟨0, 1, [97]⟩], 1⟩ 1) = some ⟨0, 1, [97]⟩ := rfl
  have e7 : out ⟨2, [⟨0, 1, [97]⟩], 1⟩ (takeI ⟨2, [⟨0, 1, [97]⟩], 1⟩ 1) = ⟨2, [], 1⟩ := rfl
  rw [e6, e7] at hR
  obtain ⟨a2, c2, rfl, h⟩ := hR
  refine WL.val run_move rfl rfl ?_
  refine WL.val (run_extract rfl rfl) rfl rfl ?_
  refine WL.val (run_extract rfl rfl) rfl rfl ?_
  refine WL.eff (eff_alloc h Try.zeroValue33 rfl) rfl rfl ?_
  rintro _ w ⟨b7, rfl, h⟩
  refine WL.eff (eff_storeN (vs := [.int .i64 _, .int .i64 _, .slice _ _ _]) h Try.sizeOf33 rfl rfl rfl rfl rfl (fun k _ _ => free0 k)) rfl rfl ?_
  rintro _ w h
  try simp only [splice, List.take_zero, List.take_succ_cons, List.take_nil, List.drop_succ_cons, List.drop_zero, List.drop_nil, List.nil_append, List.cons_append, List.append_nil, List.length_cons, List.length_nil, Nat.zero_add, Nat.reduceAdd] at h
  refine WL.val run_assign rfl rfl ?_
  refine WL.nil ?_
  refine W.seq ?_
  refine W.region ?_
  refine WL.val run_move rfl rfl ?_
  refine WL.val (run_eqlT rfl rfl (rfl)) rfl rfl ?_
  refine WL.val run_move rfl rfl ?_
  refine WL.val run_move rfl rfl ?_
  refine WL.val (run_pickT rfl) rfl rfl ?_
  refine WL.val run_move rfl rfl ?_
  refine WL.val run_move rfl rfl ?_
  refine WL.val (run_pickT rfl) rfl rfl ?_
  refine WL.val run_move rfl rfl ?_
  refine WL.val run_move rfl rfl ?_
  refine WL.val (run_pickT rfl) rfl rfl ?_
  refine WL.val run_move rfl rfl ?_
  refine WL.val (run_fieldAddr 1 Try.underlying33 rfl Try.sizeOf3 rfl rfl) rfl rfl ?_
  refine WL.val (run_load1 Try.isAgg3 rfl (h.cellB rfl)) rfl rfl ?_
  refine WL.val (run_eqlT rfl rfl (rfl)) rfl rfl ?_
  refine WL.val (run_pickT rfl) rfl rfl ?_
  refine WL.val run_move rfl rfl ?_
  refine WL.val (run_fieldAddr 2 Try.underlying33 rfl Try.sizeOf30 rfl rfl) rfl rfl ?_
  refine WL.val (run_load1 Try.isAgg30 rfl (h.cellB rfl)) rfl rfl ?_
  refine WL.val (run_bytesStr Try.underlying30 Try.underlying5 Try.underlying9 rfl (h.cellsO)) rfl rfl ?_
  refine WL.val (run_eqlStrT rfl rfl (by simp only [Go.ByteArray.toList_eq])) rfl rfl ?_
  refine WL.val (run_pickT rfl) rfl rfl ?_
  refine WL.val run_move rfl rfl ?_
  refine WL.val run_move rfl rfl ?_
  refine WL.eff (eff_call Try.call12 (waitingN (h.fetch (NetP 58 b ⟨2, [], 1⟩ pool2)))) rfl rfl ?_
  rintro _ w ⟨rfl, h⟩
  refine WL.val (run_eqlT rfl rfl (rfl)) rfl rfl ?_
  refine WL.val (run_pickT rfl) rfl rfl ?_
  refine WL.val run_move rfl rfl ?_
  refine WL.val run_move rfl rfl ?_
  refine WL.eff (eff_call Try.call13 (sentN (h.fetch (NetP 58 b ⟨2, [], 1⟩ pool2)))) rfl rfl ?_
  rintro _ w ⟨rfl, h⟩
  refine WL.val (run_eql rfl rfl) rfl rfl ?_
  refine WL.val (run_pickT rfl) rfl rfl ?_
  refine WL.val run_assign rfl rfl ?_
  refine WL.nil ?_
  refine W.ret ?_
  refine bodyQ.r1 (v := .bool _) Try.results9 rfl ?_
  -- path 
  exact ⟨rfl, h.to⟩

theorem full_ok {a : Int} (h : On W0 F w) : Calls Try.prog 3 #[.int .i64 a] w (Ret fun v w' => v = .bool true ∧ On W0 F w') := by
  refine enter Try.func3 rfl Try.ntmps3 rfl ?_
  refine W.seq ?_
  refine W.region ?_
  refine WL.val run_assign rfl rfl ?_
  refine WL.nil ?_
  refine W.seq ?_
  refine W.seq ?_
  refine W.region ?_
  refine WL.eff (eff_call Try.call9 (known_ok h)) rfl rfl ?_
  rintro _ w ⟨rfl, h⟩
  refine WL.val (run_not rfl) rfl rfl ?_
  refine WL.nil ?_
  refine W.condF rfl ?_
  refine W.skip ?_
  refine W.seq ?_
  refine W.seq ?_
  refine W.region ?_
  refine WL.val run_move rfl rfl ?_
  refine WL.dec (run_lss rfl rfl) rfl rfl (fun c11 => ?_) (fun c11 => ?_)
  · skip
    refine WL.val run_move rfl rfl ?_
    refine WL.skip rfl rfl ?_
    refine WL.skip rfl rfl ?_
    refine WL.val (run_pickT rfl) rfl rfl ?_
    refine WL.nil ?_
    refine W.condT rfl ?_
    refine W.seq ?_
    refine W.region ?_
    refine WL.val run_assign rfl rfl ?_
    refine WL.nil ?_
    refine W.ret ?_
    refine bodyQ.r1 (v := .bool _) Try.results3 rfl ?_
    -- path T
    exact ⟨rfl, h⟩
  · skip
    refine WL.val run_move rfl rfl ?_
    refine WL.val run_move rfl rfl ?_
    refine WL.val (run_gtr rfl rfl) rfl rfl ?_
    refine WL.val (run_pickF rfl) rfl rfl ?_
    refine WL.nil ?_
    refine W.condIf rfl (fun c7 => ?_) (fun c7 => ?_)
    · skip
      refine W.seq ?_
      refine W.region ?_
      refine WL.val run_assign rfl rfl ?_
      refine WL.nil ?_
      refine W.ret ?_
      refine bodyQ.r1 (v := .bool _) Try.results3 rfl ?_
      -- path FT
      exact ⟨rfl, h⟩
    · skip
      refine W.skip ?_
      refine W.seq ?_
      obtain ⟨n, rfl⟩ := Int.eq_ofNat_of_zero_le (show 0 ≤ a by omega)
      refine W.region ?_
      refine WL.eff (eff_call Try.call10 (new_ok h)) rfl rfl ?_
      rintro _ w (⟨hn, _, _⟩ | ⟨_, b, rfl, h⟩)
      · exfalso; omega
      have h := h.pool0.p1
      refine WL.val run_move rfl rfl ?_
      refine WL.val (run_extract rfl rfl) rfl rfl ?_
      refine WL.val (run_extract rfl rfl) rfl rfl ?_
      refine WL.val run_assign rfl rfl ?_
      refine WL.val run_assign rfl rfl ?_
      refine WL.nil ?_
      refine W.seq ?_
      refine W.region ?_
      refine WL.val run_assign rfl rfl ?_
      refine WL.nil ?_
      refine W.seq ?_
      refine W.seq ?_
      refine W.region ?_
      refine WL.val run_assign rfl rfl ?_
      refine WL.nil ?_
      refine W.block ?_
      refine W.loop (fun (k : Nat) env w => ∃ j pool, env = mkE j [(0, .int .i64 (n : Int)), (3, .pointer (some ⟨b, 0, none⟩)), (5, .int .i64 ((k - min k 4096 : Nat) : Int)), (6, .int .i64 (k : Int))] ∧ k ≤ n ∧ On W0 (NetP 58 b (mfull k) pool :: Pool pool :: F) w) (fun k => n - k) (0) ?_ ?_
      · exact ⟨_, [], mkE_of ⟨rfl, rfl, rfl, rfl, trivial⟩, Nat.zero_le _, h⟩
      · rintro k env w ⟨j, pool, rfl, hk, h⟩
        refine W.seq ?_
        refine W.seq ?_
        refine W.region ?_
        refine WL.val run_move rfl rfl ?_
        refine WL.val run_move rfl rfl ?_
        refine WL.val (run_lss rfl rfl) rfl rfl ?_
        refine WL.nil ?_
        refine W.condIf rfl (fun c17 => ?_) (fun c17 => ?_)
        · skip
          refine W.skip ?_
          refine W.seq ?_
          refine W.block ?_
          refine W.seq ?_
          refine W.region ?_
          refine WL.val run_move rfl rfl ?_
          refine WL.eff (eff_call Try.call11 (send_ok (bs := []) h Gives.nilB (by show (0 : Int) ≤ ((min k 4096 : Nat) : Int); omega) (by show ((min k 4096 : Nat) : Int) ≤ 1000000000000000000; omega))) rfl rfl ?_
          rintro _ w ⟨rfl, pool', _, h⟩
          rw [mfull_succ] at h
          refine WL.val (run_eql rfl rfl) rfl rfl ?_
          refine WL.nil ?_
          refine W.condIf rfl (fun c22 => ?_) (fun c22 => ?_)
          · skip
            refine W.region ?_
            refine WL.val run_move rfl rfl ?_
            refine WL.val (run_add rfl rfl (by omega) (by omega)) rfl rfl ?_
            refine WL.val run_assign rfl rfl ?_
            refine WL.nil ?_
            refine W.region ?_
            refine WL.val run_move rfl rfl ?_
            refine WL.val (run_add rfl rfl (by omega) (by omega)) rfl rfl ?_
            refine WL.val run_assign rfl rfl ?_
            refine WL.nil ?_
            -- round, path FFLTT
            exact ⟨k + 1, ⟨_, pool', mkE_of ⟨rfl, rfl, (by show Value.int .i64 (((k - min k 4096 : Nat) : Int) + 1) = _; rw [mfull_e] at c22; congr 1; split at c22 <;> omega), rfl, trivial⟩, by omega, h⟩, by show n - (k + 1) < n - k; omega⟩
          · skip
            refine W.skip ?_
            refine W.region ?_
            refine WL.val run_move rfl rfl ?_
            refine WL.val (run_add rfl rfl (by omega) (by omega)) rfl rfl ?_
            refine WL.val run_assign rfl rfl ?_
            refine WL.nil ?_
            -- round, path FFLTF
            exact ⟨k + 1, ⟨_, pool', mkE_of ⟨rfl, rfl, (by show Value.int .i64 ((k - min k 4096 : Nat) : Int) = _; rw [mfull_e] at c22; congr 1; split at c22 <;> omega), rfl, trivial⟩, by omega, h⟩, by show n - (k + 1) < n - k; omega⟩
        · skip
          refine W.exit ?_
          refine W.seq ?_
          obtain rfl : k = n := by omega
          refine W.region ?_
          refine WL.val run_assign rfl rfl ?_
          refine WL.nil ?_
          refine W.seq ?_
          refine W.seq ?_
          refine W.region ?_
          refine WL.val run_move rfl rfl ?_
          refine WL.val (run_gtr rfl rfl) rfl rfl ?_
          refine WL.nil ?_
          refine W.condIf rfl (fun c28 => ?_) (fun c28 => ?_)
          · skip
            refine W.region ?_
            refine WL.val run_move rfl rfl ?_
            refine WL.val (run_sub rfl rfl (by omega) (by omega)) rfl rfl ?_
            refine WL.val run_assign rfl rfl ?_
            refine WL.nil ?_
            refine W.seq ?_
            refine W.region ?_
            refine WL.val run_move rfl rfl ?_
            refine WL.val run_move rfl rfl ?_
            refine WL.val (run_eqlT rfl rfl (by omega)) rfl rfl ?_
            refine WL.val run_move rfl rfl ?_
            refine WL.val run_move rfl rfl ?_
            refine WL.eff (eff_call Try.call12 (waitingN h)) rfl rfl ?_
            rintro _ w ⟨rfl, h⟩
            refine WL.val run_move rfl rfl ?_
            refine WL.val run_move rfl rfl ?_
            refine WL.val (run_sub rfl rfl (by omega) (by omega)) rfl rfl ?_
            refine WL.val (run_eqlT rfl rfl (by show ((mfull k).l.length : Int) = _; unfold mfull; simp; omega)) rfl rfl ?_
            refine WL.val (run_pickT rfl) rfl rfl ?_
            refine WL.val run_move rfl rfl ?_
            refine WL.val run_move rfl rfl ?_
            refine WL.eff (eff_call Try.call13 (sentN h)) rfl rfl ?_
            rintro _ w ⟨rfl, h⟩
            refine WL.val run_move rfl rfl ?_
            refine WL.val run_move rfl rfl ?_
            refine WL.val (run_sub rfl rfl (by omega) (by omega)) rfl rfl ?_
            refine WL.val (run_eqlT rfl rfl (by show (mfull k).s = _; unfold mfull; simp; omega)) rfl rfl ?_
            refine WL.val (run_pickT rfl) rfl rfl ?_
            refine WL.val run_move rfl rfl ?_
            refine WL.val run_move rfl rfl ?_
            refine WL.eff (eff_call Try.call14 (copy_ok h)) rfl rfl ?_
            rintro _ w ⟨rfl, pool2, _, h⟩
            refine WL.val run_move rfl rfl ?_
            refine WL.val (run_lss rfl rfl) rfl rfl ?_
            refine WL.val (run_eqlBool Try.underlying4 rfl rfl) rfl rfl ?_
            refine WL.val (run_pickT rfl) rfl rfl ?_
            refine WL.val run_assign rfl rfl ?_
            refine WL.nil ?_
            refine W.ret ?_
            refine bodyQ.r1 (v := .bool _) Try.results3 rfl ?_
            -- path FFLFT
            exact ⟨by rw [mfull_copyOk (by omega)]; simp; omega, h.to⟩
          · skip
            refine W.skip ?_
            refine W.seq ?_
            refine W.region ?_
            refine WL.val run_move rfl rfl ?_
            refine WL.val run_move rfl rfl ?_
            refine WL.val (run_eqlT rfl rfl (by omega)) rfl rfl ?_
            refine WL.val run_move rfl rfl ?_
            refine WL.val run_move rfl rfl ?_
            refine WL.eff (eff_call Try.call12 (waitingN h)) rfl rfl ?_
            rintro _ w ⟨rfl, h⟩
            refine WL.val run_move rfl rfl ?_
            refine WL.val run_move rfl rfl ?_
            refine WL.val (run_sub rfl rfl (by omega) (by omega)) rfl rfl ?_
            refine WL.val (run_eqlT rfl rfl (by show ((mfull k).l.length : Int) = _; unfold mfull; simp; omega)) rfl rfl ?_
            refine WL.val (run_pickT rfl) rfl rfl ?_
            refine WL.val run_move rfl rfl ?_
            refine WL.val run_move rfl rfl ?_
            refine WL.eff (eff_call Try.call13 (sentN h)) rfl rfl ?_
            rintro _ w ⟨rfl, h⟩
            refine WL.val run_move rfl rfl ?_
            refine WL.val run_move rfl rfl ?_
            refine WL.val (run_sub rfl rfl (by omega) (by omega)) rfl rfl ?_
            refine WL.val (run_eqlT rfl rfl (by show (mfull k).s = _; unfold mfull; simp; omega)) rfl rfl ?_
            refine WL.val (run_pickT rfl) rfl rfl ?_
            refine WL.val run_move rfl rfl ?_
            refine WL.val run_move rfl rfl ?_
            refine WL.eff (eff_call Try.call14 (copy_ok h)) rfl rfl ?_
            rintro _ w ⟨rfl, pool2, _, h⟩
            refine WL.val run_move rfl rfl ?_
            refine WL.val (run_lss rfl rfl) rfl rfl ?_
            refine WL.val (run_eqlBool Try.underlying4 rfl rfl) rfl rfl ?_
            refine WL.val (run_pickT rfl) rfl rfl ?_
            refine WL.val run_assign rfl rfl ?_
            refine WL.nil ?_
            refine W.ret ?_
            refine bodyQ.r1 (v := .bool _) Try.results3 rfl ?_
            -- path FFLFF
            exact ⟨by rw [mfull_copyOk (by omega)]; simp; omega, h.to⟩

end Go.Proofs.Ytiejlelkmklgcaa
