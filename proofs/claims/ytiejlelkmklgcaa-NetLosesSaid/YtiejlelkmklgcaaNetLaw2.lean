/-
  The laws of the network: plays, copies, order, losses. Lines of walks printed by a program of the prover's.
-/
import Derived.Test.YtiejlelkmklgcaaNetLaw
import Derived.Test.YtiejlelkmklgcaaNetMore
import Derived.Test.YtiejlelkmklgcaaNetLoss
import Derived.Test.YtiejlelkmklgcaaSlBits
namespace Go.Proofs.Ytiejlelkmklgcaa
open Go Go.Sl Go.Sl.NetM
set_option linter.unusedVariables false
set_option linter.unusedSimpArgs false
set_option maxHeartbeats 4000000
variable {W0 w : World} {L F : List HProp}

theorem plays_ok {H : Int} {al : Option Addr} {cl : Nat} {acts : List A} (h : On W0 F w) (C : Gives F (Cells 5 (.slice al acts.length cl) acts.length (acts.flatMap A.cells))) (CB : ∀ a ∈ acts, Gives F (Bytes (.slice a.ax a.bs.length a.ac) a.bs)) :
    Calls Try.prog 5 #[.int .i64 H, .slice al acts.length cl] w (Ret fun v w' => v = .bool true ∧ On W0 F w') := by
  refine enter Try.func5 rfl Try.ntmps5 rfl ?_
  refine W.seq ?_
  refine W.region ?_
  refine WL.val run_assign rfl rfl ?_
  refine WL.nil ?_
  refine W.seq ?_
  refine W.seq ?_
  refine W.region ?_
  refine WL.eff (eff_call Try.call9 (known_ok h)) rfl rfl ?_
  rintro _ w ⟨rfl, h⟩
  refine WL.val (run_not rfl) rfl rfl ?_
  refine WL.nil ?_
  refine W.condF rfl ?_
  refine W.skip ?_
  refine W.seq ?_
  refine W.seq ?_
  refine W.region ?_
  refine WL.val run_move rfl rfl ?_
  refine WL.eff (eff_call Try.call16 (few_ok h C)) rfl rfl ?_
  rintro _ w ⟨t, rfl, hfew, h⟩
  cases t
  rotate_left
  · skip
    refine WL.val (run_not rfl) rfl rfl ?_
    refine WL.nil ?_
    refine W.condF rfl ?_
    refine W.skip ?_
    refine W.seq ?_
    obtain ⟨_, hlen, hbs⟩ := hfew.resolve_right (by simp)
    refine W.region ?_
    refine WL.val run_move rfl rfl ?_
    refine WL.eff (eff_call Try.call10 (new_ok h)) rfl rfl ?_
    rintro _ w (⟨hn, rfl, h⟩ | ⟨hn, b, rfl, h⟩)
    · skip
      refine WL.val run_move rfl rfl ?_
      refine WL.val (run_extract rfl rfl) rfl rfl ?_
      refine WL.val (run_extract rfl rfl) rfl rfl ?_
      refine WL.val run_assign rfl rfl ?_
      refine WL.val run_assign rfl rfl ?_
      refine WL.nil ?_
      refine W.seq ?_
      refine W.region ?_
      refine WL.val run_move rfl rfl ?_
      refine WL.eff (eff_call Try.call17 (rnew_ok h)) rfl rfl ?_
      rintro _ w (⟨_, rfl, h⟩ | ⟨hn', _⟩)
      rotate_left
      · exact absurd hn' hn
      refine WL.val run_move rfl rfl ?_
      refine WL.val (run_extract rfl rfl) rfl rfl ?_
      refine WL.val (run_extract rfl rfl) rfl rfl ?_
      refine WL.val run_assign rfl rfl ?_
      refine WL.val run_assign rfl rfl ?_
      refine WL.nil ?_
      refine W.seq ?_
      refine W.seq ?_
      refine W.region ?_
      refine WL.val run_move rfl rfl ?_
      refine WL.val run_move rfl rfl ?_
      refine WL.val (run_neqF rfl rfl (rfl)) rfl rfl ?_
      refine WL.val run_move rfl rfl ?_
      refine WL.val run_move rfl rfl ?_
      refine WL.val (run_eqlPtrNil Try.underlying23 rfl rfl) rfl rfl ?_
      refine WL.val run_move rfl rfl ?_
      refine WL.val (run_eqlPtrNil Try.underlying39 rfl rfl) rfl rfl ?_
      refine WL.val (run_neqBool Try.underlying4 rfl rfl) rfl rfl ?_
      refine WL.val (run_pickF rfl) rfl rfl ?_
      refine WL.nil ?_
      refine W.condF rfl ?_
      refine W.skip ?_
      refine W.seq ?_
      refine W.seq ?_
      refine W.region ?_
      refine WL.val run_move rfl rfl ?_
      refine WL.val (run_eqlPtrNil Try.underlying23 rfl rfl) rfl rfl ?_
      refine WL.nil ?_
      refine W.condT rfl ?_
      refine W.seq ?_
      refine W.region ?_
      refine WL.val run_assign rfl rfl ?_
      refine WL.nil ?_
      refine W.ret ?_
      refine bodyQ.r1 (v := .bool _) Try.results5 rfl ?_
      -- path TT
      exact ⟨rfl, h⟩
    · skip
      refine WL.val run_move rfl rfl ?_
      refine WL.val (run_extract rfl rfl) rfl rfl ?_
      refine WL.val (run_extract rfl rfl) rfl rfl ?_
      refine WL.val run_assign rfl rfl ?_
      refine WL.val run_assign rfl rfl ?_
      refine WL.nil ?_
      refine W.seq ?_
      refine W.region ?_
      refine WL.val run_move rfl rfl ?_
      refine WL.eff (eff_call Try.call17 (rnew_ok h.pool0.p1)) rfl rfl ?_
      rintro _ w (⟨hn', _⟩ | ⟨_, b', rfl, h⟩)
      · exact absurd hn hn'
      have h := h.p1
      refine WL.val run_move rfl rfl ?_
      refine WL.val (run_extract rfl rfl) rfl rfl ?_
      refine WL.val (run_extract rfl rfl) rfl rfl ?_
      refine WL.val run_assign rfl rfl ?_
      refine WL.val run_assign rfl rfl ?_
      refine WL.nil ?_
      refine W.seq ?_
      refine W.seq ?_
      refine W.region ?_
      refine WL.val run_move rfl rfl ?_
      refine WL.val run_move rfl rfl ?_
      refine WL.val (run_neqF rfl rfl (rfl)) rfl rfl ?_
      refine WL.val run_move rfl rfl ?_
      refine WL.val run_move rfl rfl ?_
      refine WL.val (run_eqlPtrNil Try.underlying23 rfl rfl) rfl rfl ?_
      refine WL.val run_move rfl rfl ?_
      refine WL.val (run_eqlPtrNil Try.underlying39 rfl rfl) rfl rfl ?_
      refine WL.val (run_neqBool Try.underlying4 rfl rfl) rfl rfl ?_
      refine WL.val (run_pickF rfl) rfl rfl ?_
      refine WL.nil ?_
      refine W.condF rfl ?_
      refine W.skip ?_
      refine W.seq ?_
      refine W.seq ?_
      refine W.region ?_
      refine WL.val run_move rfl rfl ?_
      refine WL.val (run_eqlPtrNil Try.underlying23 rfl rfl) rfl rfl ?_
      refine WL.nil ?_
      refine W.condF rfl ?_
      refine W.skip ?_
      refine W.seq ?_
      refine W.seq ?_
      refine W.region ?_
      refine WL.val run_assign rfl rfl ?_
      refine WL.nil ?_
      refine W.block ?_
      refine W.loop (fun (k : Nat) env w => ∃ j pool, env = mkE j [(0, .int .i64 H), (1, .slice al acts.length cl), (5, .pointer (some ⟨b, 0, none⟩)), (6, .int .i64 0), (7, .pointer (some ⟨b', 0, none⟩)), (8, .int .i64 0), (9, .int .i64 (k : Int))] ∧ k ≤ acts.length ∧
        On W0 (NetP 58 b (runA H acts k) pool :: RefP 47 b' (runA H acts k) :: Pool pool :: F) w) (fun k => acts.length - k) (0) ?_ ?_
      · exact ⟨_, [], mkE_of ⟨rfl, rfl, rfl, rfl, rfl, rfl, rfl, trivial⟩, Nat.zero_le _, h⟩
      · rintro k env w ⟨j, pool, rfl, hk, h⟩
        refine W.seq ?_
        refine W.seq ?_
        refine W.region ?_
        refine WL.val run_move rfl rfl ?_
        refine WL.val run_move rfl rfl ?_
        refine WL.val (run_lenSlice Try.underlying37 rfl) rfl rfl ?_
        refine WL.val (run_lss rfl rfl) rfl rfl ?_
        refine WL.nil ?_
        refine W.condIf rfl (fun c27 => ?_) (fun c27 => ?_)
        · skip
          refine W.skip ?_
          refine W.seq ?_
          refine W.block ?_
          refine W.seq ?_
          have hkl : k < acts.length := by omega
          obtain ⟨bq, oq, hal⟩ := (h.reads (Gives.to C)).addr (by omega)
          subst hal
          obtain ⟨⟨ao, af, at_, an, ax, ac, abs⟩, hq⟩ : ∃ a, acts[k]? = some a := ⟨acts[k], by simp⟩
          have hrow := drop_flatMap A.cells 5 A.cells_length acts _ _ hq
          have hB := CB _ (List.mem_of_getElem? hq)
          obtain ⟨hs0, hs1⟩ := runA_s H acts k
          refine W.draw Try.follows h (fun w h => ?_)
          refine WT.pure 0 rfl (by kernel_rfl) (fun w' => run_move) rfl rfl ?_
          refine WT.pure 1 rfl (by kernel_rfl) (fun w' => run_move) rfl rfl ?_
          refine WT.pure 2 rfl (by kernel_rfl) (fun w' => run_move) rfl rfl ?_
          refine WT.pure 3 rfl (by kernel_rfl) (fun w' => run_move) rfl rfl ?_
          refine WT.pure 4 rfl (by kernel_rfl) (fun w' => (run_indexAddr Try.underlying37 Try.sizeOf44 rfl rfl (by omega) (by omega))) rfl rfl ?_
          refine WT.loadN 5 rfl (by kernel_rfl) Try.isAgg44 Try.sizeOf44 rfl rfl ((h.reads (Gives.to C)).elem (i := k) (vs := [.int .i64 ao, .int .i64 af, .int .i64 at_, .int .i64 an, .slice ax abs.length ac]) (by omega) hrow) rfl rfl ?_
          refine WT.eff 6 [false] rfl (by kernel_rfl) (by kernel_rfl) (eff_call Try.call18 (do_ok (a := ⟨ao, af, at_, an, ax, ac, abs⟩) h hB hs0 (by omega))) rfl rfl ?_
          rintro _ w ⟨rfl, pool', hsub, h⟩
          rw [runA_succ hq] at h
          obtain ⟨ra, rc, hr1, h⟩ := openR h.p1
          refine ⟨trivial, ?_⟩
          refine WT.pure 7 rfl (by kernel_rfl) (fun w' => (run_not rfl)) rfl rfl ?_
          refine WT.pure 8 rfl (by kernel_rfl) (fun w' => run_move) rfl rfl ?_
          refine WT.pure 9 rfl (by kernel_rfl) (fun w' => run_move) rfl rfl ?_
          refine WT.pure 11 rfl (by kernel_rfl) (fun w' => run_move) rfl rfl ?_
          refine WT.pure 12 rfl (by kernel_rfl) (fun w' => (run_nilCheck rfl)) rfl rfl ?_
          refine WT.pure 13 rfl (by kernel_rfl) (fun w' => (run_fieldAddr 1 Try.underlying47 rfl Try.sizeOf45 rfl rfl)) rfl rfl ?_
          refine WT.load1 14 rfl (by kernel_rfl) Try.isAgg45 rfl (h.cellB rfl) rfl rfl ?_
          refine WT.pure 15 rfl (by kernel_rfl) (fun w' => (run_lenSlice Try.underlying45 rfl)) rfl rfl ?_
          refine WT.eff 10 [true] rfl (by kernel_rfl) (by kernel_rfl) (eff_call Try.call12 (waitingN (h.fetch (NetP 58 b (runA H acts (k + 1)) pool')))) rfl rfl ?_
          rintro _ w ⟨rfl, h⟩
          refine ⟨⟨h.cellB rfl, trivial⟩, ?_⟩
          refine WT.pure 16 rfl (by kernel_rfl) (fun w' => run_neqF rfl rfl (rfl)) rfl rfl ?_
          refine WT.pure 17 rfl (by kernel_rfl) (fun w' => (run_pickF rfl)) rfl rfl ?_
          refine WT.pure 18 rfl (by kernel_rfl) (fun w' => run_move) rfl rfl ?_
          refine WT.pure 19 rfl (by kernel_rfl) (fun w' => run_move) rfl rfl ?_
          refine WT.pure 21 rfl (by kernel_rfl) (fun w' => run_move) rfl rfl ?_
          refine WT.pure 22 rfl (by kernel_rfl) (fun w' => (run_nilCheck rfl)) rfl rfl ?_
          refine WT.pure 23 rfl (by kernel_rfl) (fun w' => (run_fieldAddr 2 Try.underlying47 rfl Try.sizeOf3 rfl rfl)) rfl rfl ?_
          refine WT.load1 24 rfl (by kernel_rfl) Try.isAgg3 rfl (h.cellB rfl) rfl rfl ?_
          refine WT.eff 20 [true, false] rfl (by kernel_rfl) (by kernel_rfl) (eff_call Try.call13 (sentN h)) rfl rfl ?_
          rintro _ w ⟨rfl, h⟩
          refine ⟨⟨h.cellB rfl, trivial⟩, ?_⟩
          refine WT.pure 25 rfl (by kernel_rfl) (fun w' => run_neqF rfl rfl (rfl)) rfl rfl ?_
          refine WT.pure 26 rfl (by kernel_rfl) (fun w' => (run_pickF rfl)) rfl rfl ?_
          refine WT.done (by kernel_rfl) ?_
          refine W.condF rfl ?_
          refine W.skip ?_
          refine W.region ?_
          refine WL.val run_move rfl rfl ?_
          refine WL.val (run_add rfl rfl (by omega) (by omega)) rfl rfl ?_
          refine WL.val run_assign rfl rfl ?_
          refine WL.nil ?_
          -- round, path TFLT
          exact ⟨k + 1, ⟨_, pool', mkE_of ⟨rfl, rfl, rfl, rfl, rfl, rfl, rfl, trivial⟩, by omega, (closeR hr1 h.p2.p2).p1⟩, by show acts.length - (k + 1) < acts.length - k; omega⟩
        · skip
          refine W.exit ?_
          refine W.seq ?_
          refine W.seq ?_
          obtain rfl : k = acts.length := by omega
          revert h
          generalize runA H acts acts.length = m
          intro h
          refine W.region ?_
          refine WL.val run_assign rfl rfl ?_
          refine WL.nil ?_
          refine W.block ?_
          refine W.loop (fun (k : Nat) env w => ∃ j, env = mkE j [(5, .pointer (some ⟨b, 0, none⟩)), (7, .pointer (some ⟨b', 0, none⟩)), (10, .int .i64 (k : Int))] ∧ k ≤ m.l.length ∧
            On W0 (NetP 58 b m pool :: RefP 47 b' m :: Pool pool :: F) w) (fun k => m.l.length - k) (0) ?_ ?_
          · exact ⟨_, mkE_of ⟨rfl, rfl, rfl, trivial⟩, Nat.zero_le _, h⟩
          · rintro i env w ⟨j, rfl, hi, h⟩
            obtain ⟨ra, rc, hr1, h⟩ := openR h.p1
            refine W.seq ?_
            refine W.seq ?_
            refine W.region ?_
            refine WL.val run_move rfl rfl ?_
            refine WL.val run_move rfl rfl ?_
            refine WL.val (run_nilCheck rfl) rfl rfl ?_
            refine WL.val (run_fieldAddr 1 Try.underlying47 rfl Try.sizeOf45 rfl rfl) rfl rfl ?_
            refine WL.val (run_load1 Try.isAgg45 rfl (h.cellB rfl)) rfl rfl ?_
            refine WL.val (run_lenSlice Try.underlying45 rfl) rfl rfl ?_
            refine WL.val (run_lss rfl rfl) rfl rfl ?_
            refine WL.nil ?_
            refine W.condIf rfl (fun c41 => ?_) (fun c41 => ?_)
            · skip
              refine W.skip ?_
              refine W.seq ?_
              have hil : i < m.l.length := by omega
              obtain ⟨⟨pf, pt, pbs⟩, hp⟩ : ∃ p, m.l[i]? = some p := ⟨m.l[i], by simp⟩
              obtain ⟨br, or_, hra⟩ := Own.addr h.p1 (by omega)
              subst hra
              refine W.block ?_
              refine W.seq ?_
              refine W.region ?_
              refine WL.val run_move rfl rfl ?_
              refine WL.val run_move rfl rfl ?_
              refine WL.eff (eff_call Try.call19 (packet_ok ((h.fetch (Pool pool)).fetch (NetP 58 b m pool)))) rfl rfl ?_
              rintro _ w hR
              rw [at?_lt hp] at hR
              obtain ⟨pa, pc, rfl, h⟩ := hR
              refine WL.val run_move rfl rfl ?_
              refine WL.val (run_extract rfl rfl) rfl rfl ?_
              refine WL.val (run_extract rfl rfl) rfl rfl ?_
              refine WL.eff (eff_alloc h Try.zeroValue33 rfl) rfl rfl ?_
              rintro _ w ⟨b11, rfl, h⟩
              refine WL.eff (eff_storeN (vs := [.int .i64 _, .int .i64 _, .slice _ _ _]) h Try.sizeOf33 rfl rfl rfl rfl rfl (fun k _ _ => free0 k)) rfl rfl ?_
              rintro _ w h
              try simp only [splice, List.take_zero, List.take_succ_cons, List.take_nil, List.drop_succ_cons, List.drop_zero, List.drop_nil, List.nil_append, List.cons_append, List.append_nil, List.length_cons, List.length_nil, Nat.zero_add, Nat.reduceAdd] at h
              refine WL.val run_assign rfl rfl ?_
              refine WL.nil ?_
              refine W.seq ?_
              refine W.draw Try.follows h (fun w h => ?_)
              refine WT.pure 0 rfl (by kernel_rfl) (fun w' => run_move) rfl rfl ?_
              refine WT.pure 1 rfl (by kernel_rfl) (fun w' => (run_not rfl)) rfl rfl ?_
              refine WT.pure 2 rfl (by kernel_rfl) (fun w' => run_move) rfl rfl ?_
              refine WT.loadN (vs := [.int .i64 _, .int .i64 _, .slice _ _ _]) 3 rfl (by kernel_rfl) Try.isAgg33 Try.sizeOf33 rfl rfl (h.rowV (n := 3) rfl) rfl rfl ?_
              refine WT.pure 4 rfl (by kernel_rfl) (fun w' => run_move) rfl rfl ?_
              refine WT.pure 5 rfl (by kernel_rfl) (fun w' => (run_nilCheck rfl)) rfl rfl ?_
              refine WT.pure 6 rfl (by kernel_rfl) (fun w' => (run_fieldAddr 1 Try.underlying47 rfl Try.sizeOf45 rfl rfl)) rfl rfl ?_
              refine WT.load1 7 rfl (by kernel_rfl) Try.isAgg45 rfl (h.cellB rfl) rfl rfl ?_
              refine WT.pure 8 rfl (by kernel_rfl) (fun w' => run_move) rfl rfl ?_
              refine WT.pure 9 rfl (by kernel_rfl) (fun w' => (run_indexAddr Try.underlying45 Try.sizeOf50 rfl rfl (by omega) (by omega))) rfl rfl ?_
              refine WT.loadN 10 rfl (by kernel_rfl) Try.isAgg50 Try.sizeOf50 rfl rfl ((h.cellsO (v := .slice (some ⟨br, or_, none⟩) m.l.length rc)).elem (i := i) (vs := [.int .i64 pf, .int .i64 pt, .string ⟨pbs.toArray⟩]) (by omega) (drop_flatMap rk 3 rk_length m.l _ _ hp)) rfl rfl ?_
              refine WT.eff 11 [false, false, false] rfl (by kernel_rfl) (by kernel_rfl) (eff_call Try.call20 (same_ok h (Gives.ownO (v := .slice pa pbs.length pc)))) rfl rfl ?_
              rintro _ w ⟨rfl, h⟩
              refine ⟨trivial, ?_⟩
              refine WT.pure 12 rfl (by kernel_rfl) (fun w' => (run_not rfl)) rfl rfl ?_
              refine WT.pure 13 rfl (by kernel_rfl) (fun w' => (run_pickF rfl)) rfl rfl ?_
              refine WT.done (by kernel_rfl) ?_
              refine W.condF rfl ?_
              refine W.skip ?_
              refine W.region ?_
              refine WL.val run_move rfl rfl ?_
              refine WL.val (run_add rfl rfl (by omega) (by omega)) rfl rfl ?_
              refine WL.val run_assign rfl rfl ?_
              refine WL.nil ?_
              -- round, path TFLFLT
              have h2 : On W0 (blk b' [.int .i64 m.H, .slice (some ⟨br, or_, none⟩) m.l.length rc, .int .i64 m.s] 47 :: Own 3 (.slice (some ⟨br, or_, none⟩) m.l.length rc) m.l.length (m.l.flatMap rk) :: NetP 58 b m pool :: Pool pool :: F) w := h.to
              exact ⟨i + 1, ⟨_, mkE_of ⟨rfl, rfl, rfl, trivial⟩, by omega, (closeR hr1 h2).p1⟩, by show m.l.length - (i + 1) < m.l.length - i; omega⟩
            · skip
              refine W.exit ?_
              refine W.seq ?_
              refine W.region ?_
              refine WL.val run_assign rfl rfl ?_
              refine WL.nil ?_
              refine W.ret ?_
              refine bodyQ.r1 (v := .bool _) Try.results5 rfl ?_
              -- path TFLFLF
              exact ⟨rfl, h.to⟩
  · skip
    refine WL.val (run_not rfl) rfl rfl ?_
    refine WL.nil ?_
    refine W.condT rfl ?_
    refine W.seq ?_
    refine W.region ?_
    refine WL.val run_assign rfl rfl ?_
    refine WL.nil ?_
    refine W.ret ?_
    refine bodyQ.r1 (v := .bool _) Try.results5 rfl ?_
    -- path F
    exact ⟨rfl, h⟩

theorem copies_ok {ab : Option Addr} {cb : Nat} {bs : List UInt8} {a1 a2 : Int} (h : On W0 F w) (C : Gives F (Bytes (.slice ab bs.length cb) bs)) :
    Calls Try.prog 6 #[.slice ab bs.length cb, .int .i64 a1, .int .i64 a2] w (Ret fun v w' => v = .bool true ∧ On W0 F w') := by
  refine enter Try.func6 rfl Try.ntmps6 rfl ?_
  refine W.seq ?_
  refine W.region ?_
  refine WL.val run_assign rfl rfl ?_
  refine WL.nil ?_
  refine W.seq ?_
  refine W.seq ?_
  refine W.region ?_
  refine WL.eff (eff_call Try.call9 (known_ok h)) rfl rfl ?_
  rintro _ w ⟨rfl, h⟩
  refine WL.val (run_not rfl) rfl rfl ?_
  refine WL.nil ?_
  refine W.condF rfl ?_
  refine W.skip ?_
  refine W.seq ?_
  refine W.seq ?_
  refine W.region ?_
  refine WL.val run_move rfl rfl ?_
  refine WL.val (run_lenSlice Try.underlying30 rfl) rfl rfl ?_
  refine WL.dec (run_gtr rfl rfl) rfl rfl (fun c19 => ?_) (fun c19 => ?_)
  · skip
    refine WL.val run_move rfl rfl ?_
    refine WL.skip rfl rfl ?_
    refine WL.skip rfl rfl ?_
    refine WL.val (run_pickT rfl) rfl rfl ?_
    refine WL.val run_move rfl rfl ?_
    refine WL.skip rfl rfl ?_
    refine WL.skip rfl rfl ?_
    refine WL.val (run_pickT rfl) rfl rfl ?_
    refine WL.val run_move rfl rfl ?_
    refine WL.skip rfl rfl ?_
    refine WL.skip rfl rfl ?_
    refine WL.val (run_pickT rfl) rfl rfl ?_
    refine WL.val run_move rfl rfl ?_
    refine WL.skip rfl rfl ?_
    refine WL.skip rfl rfl ?_
    refine WL.val (run_pickT rfl) rfl rfl ?_
    refine WL.nil ?_
    refine W.condT rfl ?_
    refine W.seq ?_
    refine W.region ?_
    refine WL.val run_assign rfl rfl ?_
    refine WL.nil ?_
    refine W.ret ?_
    refine bodyQ.r1 (v := .bool _) Try.results6 rfl ?_
    -- path T
    exact ⟨rfl, h⟩
  · skip
    refine WL.val run_move rfl rfl ?_
    refine WL.val run_move rfl rfl ?_
    refine WL.dec (run_lss rfl rfl) rfl rfl (fun c22 => ?_) (fun c22 => ?_)
    · skip
      refine WL.val (run_pickF rfl) rfl rfl ?_
      refine WL.val run_move rfl rfl ?_
      refine WL.skip rfl rfl ?_
      refine WL.skip rfl rfl ?_
      refine WL.val (run_pickT rfl) rfl rfl ?_
      refine WL.val run_move rfl rfl ?_
      refine WL.skip rfl rfl ?_
      refine WL.skip rfl rfl ?_
      refine WL.val (run_pickT rfl) rfl rfl ?_
      refine WL.val run_move rfl rfl ?_
      refine WL.skip rfl rfl ?_
      refine WL.skip rfl rfl ?_
      refine WL.val (run_pickT rfl) rfl rfl ?_
      refine WL.nil ?_
      refine W.condT rfl ?_
      refine W.seq ?_
      refine W.region ?_
      refine WL.val run_assign rfl rfl ?_
      refine WL.nil ?_
      refine W.ret ?_
      refine bodyQ.r1 (v := .bool _) Try.results6 rfl ?_
      -- path FT
      exact ⟨rfl, h⟩
    · skip
      refine WL.val (run_pickF rfl) rfl rfl ?_
      refine WL.val run_move rfl rfl ?_
      refine WL.val run_move rfl rfl ?_
      refine WL.dec (run_gtr rfl rfl) rfl rfl (fun c26 => ?_) (fun c26 => ?_)
      · skip
        refine WL.val (run_pickF rfl) rfl rfl ?_
        refine WL.val run_move rfl rfl ?_
        refine WL.skip rfl rfl ?_
        refine WL.skip rfl rfl ?_
        refine WL.val (run_pickT rfl) rfl rfl ?_
        refine WL.val run_move rfl rfl ?_
        refine WL.skip rfl rfl ?_
        refine WL.skip rfl rfl ?_
        refine WL.val (run_pickT rfl) rfl rfl ?_
        refine WL.nil ?_
        refine W.condT rfl ?_
        refine W.seq ?_
        refine W.region ?_
        refine WL.val run_assign rfl rfl ?_
        refine WL.nil ?_
        refine W.ret ?_
        refine bodyQ.r1 (v := .bool _) Try.results6 rfl ?_
        -- path FFT
        exact ⟨rfl, h⟩
      · skip
        refine WL.val (run_pickF rfl) rfl rfl ?_
        refine WL.val run_move rfl rfl ?_
        refine WL.val run_move rfl rfl ?_
        refine WL.dec (run_lss rfl rfl) rfl rfl (fun c30 => ?_) (fun c30 => ?_)
        · skip
          refine WL.val (run_pickF rfl) rfl rfl ?_
          refine WL.val run_move rfl rfl ?_
          refine WL.skip rfl rfl ?_
          refine WL.skip rfl rfl ?_
          refine WL.val (run_pickT rfl) rfl rfl ?_
          refine WL.nil ?_
          refine W.condT rfl ?_
          refine W.seq ?_
          refine W.region ?_
          refine WL.val run_assign rfl rfl ?_
          refine WL.nil ?_
          refine W.ret ?_
          refine bodyQ.r1 (v := .bool _) Try.results6 rfl ?_
          -- path FFFT
          exact ⟨rfl, h⟩
        · skip
          refine WL.val (run_pickF rfl) rfl rfl ?_
          refine WL.val run_move rfl rfl ?_
          refine WL.val run_move rfl rfl ?_
          refine WL.val (run_gtr rfl rfl) rfl rfl ?_
          refine WL.val (run_pickF rfl) rfl rfl ?_
          refine WL.nil ?_
          refine W.condIf rfl (fun c7 => ?_) (fun c7 => ?_)
          · skip
            refine W.seq ?_
            refine W.region ?_
            refine WL.val run_assign rfl rfl ?_
            refine WL.nil ?_
            refine W.ret ?_
            refine bodyQ.r1 (v := .bool _) Try.results6 rfl ?_
            -- path FFFFT
            exact ⟨rfl, h⟩
          · skip
            refine W.skip ?_
            refine W.seq ?_
            obtain ⟨cp, rfl⟩ := Int.eq_ofNat_of_zero_le (show 0 ≤ a1 by omega)
            obtain ⟨dr, rfl⟩ := Int.eq_ofNat_of_zero_le (show 0 ≤ a2 by omega)
            refine W.region ?_
            refine WL.eff (eff_call Try.call10 (new_ok h)) rfl rfl ?_
            rintro _ w (⟨hn, _, _⟩ | ⟨_, b, rfl, h⟩)
            · exfalso; omega
            have h := h.pool0.p1
            refine WL.val run_move rfl rfl ?_
            refine WL.val (run_extract rfl rfl) rfl rfl ?_
            refine WL.val (run_extract rfl rfl) rfl rfl ?_
            refine WL.val run_assign rfl rfl ?_
            refine WL.val run_assign rfl rfl ?_
            refine WL.nil ?_
            refine W.seq ?_
            refine W.region ?_
            refine WL.val run_move rfl rfl ?_
            refine WL.val run_move rfl rfl ?_
            refine WL.eff (eff_call Try.call11 (send_ok h C (by simp) (by simp))) rfl rfl ?_
            rintro _ w ⟨_, pool, _, h⟩
            rw [mcp_send (by omega)] at h
            refine WL.nil ?_
            refine W.seq ?_
            refine W.seq ?_
            refine W.region ?_
            refine WL.val run_assign rfl rfl ?_
            refine WL.nil ?_
            refine W.block ?_
            refine W.loop (fun (k : Nat) env w => ∃ j pool, env = mkE j [(0, .slice ab bs.length cb), (1, .int .i64 (cp : Int)), (2, .int .i64 (dr : Int)), (7, .pointer (some ⟨b, 0, none⟩)), (9, .int .i64 (k : Int))] ∧ k ≤ cp ∧ On W0 (NetP 58 b (mcp bs (k + 1)) pool :: Pool pool :: F) w) (fun k => cp - k) (0) ?_ ?_
            · exact ⟨_, pool, mkE_of ⟨rfl, rfl, rfl, rfl, rfl, trivial⟩, Nat.zero_le _, h⟩
            · rintro k env w ⟨j, pool, rfl, hk, h⟩
              refine W.seq ?_
              refine W.seq ?_
              refine W.region ?_
              refine WL.val run_move rfl rfl ?_
              refine WL.val run_move rfl rfl ?_
              refine WL.val (run_lss rfl rfl) rfl rfl ?_
              refine WL.nil ?_
              refine W.condIf rfl (fun c17 => ?_) (fun c17 => ?_)
              · skip
                refine W.skip ?_
                refine W.seq ?_
                refine W.block ?_
                refine W.seq ?_
                refine W.region ?_
                refine WL.val run_move rfl rfl ?_
                refine WL.val run_move rfl rfl ?_
                refine WL.val (run_quo rfl rfl (by omega) (by omega) (by omega)) rfl rfl ?_
                refine WL.eff (eff_call Try.call14 (copy_ok h)) rfl rfl ?_
                rintro _ w ⟨hv, pool', _, h⟩
                rw [mcp_copyOk (by omega) (by omega) (by omega)] at hv
                subst hv
                rw [mcp_copy (by omega) (by omega) (by omega)] at h
                refine WL.val (run_not rfl) rfl rfl ?_
                refine WL.nil ?_
                refine W.condF rfl ?_
                refine W.skip ?_
                refine W.region ?_
                refine WL.val run_move rfl rfl ?_
                refine WL.val (run_add rfl rfl (by omega) (by omega)) rfl rfl ?_
                refine WL.val run_assign rfl rfl ?_
                refine WL.nil ?_
                -- round, path FFFFFLT
                exact ⟨k + 1, ⟨_, pool', mkE_of ⟨rfl, rfl, rfl, rfl, rfl, trivial⟩, by omega, h⟩, by show cp - (k + 1) < cp - k; omega⟩
              · skip
                refine W.exit ?_
                refine W.seq ?_
                obtain rfl : k = cp := by omega
                refine W.region ?_
                refine WL.val run_move rfl rfl ?_
                refine WL.val (run_add rfl rfl (by omega) (by omega)) rfl rfl ?_
                refine WL.val run_assign rfl rfl ?_
                refine WL.nil ?_
                refine W.seq ?_
                refine W.seq ?_
                refine W.region ?_
                refine WL.val run_assign rfl rfl ?_
                refine WL.nil ?_
                refine W.block ?_
                refine W.loop (fun (i : Nat) env w => ∃ j pool, env = mkE j [(0, .slice ab bs.length cb), (1, .int .i64 (k : Int)), (2, .int .i64 (dr : Int)), (7, .pointer (some ⟨b, 0, none⟩)), (10, .int .i64 ((1 + k - i : Nat) : Int)), (11, .int .i64 (i : Int))] ∧ i ≤ dr ∧ On W0 (NetP 58 b (mcp bs (1 + k - i)) pool :: Pool pool :: F) w) (fun i => dr - i) (0) ?_ ?_
                · exact ⟨_, pool, mkE_of ⟨rfl, rfl, rfl, rfl, (by show Value.int .i64 (1 + (k : Int)) = _; congr 1 <;> omega), rfl, trivial⟩, Nat.zero_le _, by rw [show 1 + k - 0 = k + 1 by omega]; exact h⟩
                · rintro i env w ⟨j, pool, rfl, hi, h⟩
                  refine W.seq ?_
                  refine W.seq ?_
                  refine W.region ?_
                  refine WL.val run_move rfl rfl ?_
                  refine WL.val run_move rfl rfl ?_
                  refine WL.val (run_lss rfl rfl) rfl rfl ?_
                  refine WL.nil ?_
                  refine W.condIf rfl (fun c32 => ?_) (fun c32 => ?_)
                  · skip
                    refine W.skip ?_
                    refine W.seq ?_
                    refine W.block ?_
                    refine W.seq ?_
                    refine W.seq ?_
                    refine W.region ?_
                    refine WL.val run_move rfl rfl ?_
                    refine WL.eff (eff_call Try.call21 (drop_ok h)) rfl rfl ?_
                    rintro _ w ⟨hv, h⟩
                    rw [mcp_isSome (by omega)] at hv
                    subst hv
                    rw [mcp_drop0] at h
                    refine WL.val run_move rfl rfl ?_
                    refine WL.val (run_gtr rfl rfl) rfl rfl ?_
                    refine WL.val (run_neqBoolF Try.underlying4 rfl rfl rfl) rfl rfl ?_
                    refine WL.nil ?_
                    refine W.condF rfl ?_
                    refine W.skip ?_
                    refine W.seq ?_
                    refine W.region ?_
                    refine WL.val run_move rfl rfl ?_
                    refine WL.val (run_gtr rfl rfl) rfl rfl ?_
                    refine WL.nil ?_
                    refine W.condIf rfl (fun c42 => ?_) (fun c42 => ?_)
                    · skip
                      refine W.region ?_
                      refine WL.val run_move rfl rfl ?_
                      refine WL.val (run_sub rfl rfl (by omega) (by omega)) rfl rfl ?_
                      refine WL.val run_assign rfl rfl ?_
                      refine WL.nil ?_
                      refine W.region ?_
                      refine WL.val run_move rfl rfl ?_
                      refine WL.val (run_add rfl rfl (by omega) (by omega)) rfl rfl ?_
                      refine WL.val run_assign rfl rfl ?_
                      refine WL.nil ?_
                      -- round, path FFFFFLFLTT
                      exact ⟨i + 1, ⟨_, pool, mkE_of ⟨rfl, rfl, rfl, rfl, (by show Value.int .i64 (((1 + k - i : Nat) : Int) - 1) = _; congr 1 <;> omega), rfl, trivial⟩, by omega, by rw [show 1 + k - (i + 1) = 1 + k - i - 1 by omega]; exact h⟩, by show dr - (i + 1) < dr - i; omega⟩
                    · skip
                      refine W.skip ?_
                      refine W.region ?_
                      refine WL.val run_move rfl rfl ?_
                      refine WL.val (run_add rfl rfl (by omega) (by omega)) rfl rfl ?_
                      refine WL.val run_assign rfl rfl ?_
                      refine WL.nil ?_
                      -- round, path FFFFFLFLTF
                      exact ⟨i + 1, ⟨_, pool, mkE_of ⟨rfl, rfl, rfl, rfl, (by show Value.int .i64 (((1 + k - i : Nat) : Int)) = _; congr 1 <;> omega), rfl, trivial⟩, by omega, by rw [show 1 + k - (i + 1) = 1 + k - i - 1 by omega]; exact h⟩, by show dr - (i + 1) < dr - i; omega⟩
                  · skip
                    refine W.exit ?_
                    refine W.seq ?_
                    refine W.seq ?_
                    obtain rfl : i = dr := by omega
                    revert h
                    generalize hN : 1 + k - i = N
                    have hN1 : N ≤ 41 := by omega
                    intro h
                    refine W.region ?_
                    refine WL.val run_assign rfl rfl ?_
                    refine WL.nil ?_
                    refine W.block ?_
                    refine W.loop (fun (q : Nat) env w => ∃ j, env = mkE j [(0, .slice ab bs.length cb), (7, .pointer (some ⟨b, 0, none⟩)), (10, .int .i64 (N : Int)), (12, .int .i64 (q : Int))] ∧ q ≤ N ∧ On W0 (NetP 58 b (mcp bs (N - q)) pool :: Pool pool :: F) w) (fun q => N - q) (0) ?_ ?_
                    · exact ⟨_, mkE_of ⟨rfl, rfl, rfl, rfl, trivial⟩, Nat.zero_le _, h⟩
                    · rintro q env w ⟨j, rfl, hq, h⟩
                      refine W.seq ?_
                      refine W.seq ?_
                      refine W.region ?_
                      refine WL.val run_move rfl rfl ?_
                      refine WL.val run_move rfl rfl ?_
                      refine WL.val (run_lss rfl rfl) rfl rfl ?_
                      refine WL.nil ?_
                      refine W.condIf rfl (fun c50 => ?_) (fun c50 => ?_)
                      · skip
                        refine W.skip ?_
                        refine W.seq ?_
                        refine W.block ?_
                        refine W.seq ?_
                        refine W.region ?_
                        refine WL.val run_move rfl rfl ?_
                        refine WL.val run_move rfl rfl ?_
                        refine WL.val (run_sub rfl rfl (by omega) (by omega)) rfl rfl ?_
                        refine WL.val run_move rfl rfl ?_
                        refine WL.val (run_sub rfl rfl (by omega) (by omega)) rfl rfl ?_
                        refine WL.eff (eff_call Try.call22 (deliver_ok h)) rfl rfl ?_
                        rintro _ w hR
                        rw [mcp_at (by omega) (by omega), mcp_out (by omega) (by omega)] at hR
                        obtain ⟨pa, pc, rfl, h⟩ := hR
                        refine WL.val run_move rfl rfl ?_
                        refine WL.val (run_extract rfl rfl) rfl rfl ?_
                        refine WL.val (run_extract rfl rfl) rfl rfl ?_
                        refine WL.eff (eff_alloc h Try.zeroValue33 rfl) rfl rfl ?_
                        rintro _ w ⟨b13, rfl, h⟩
                        refine WL.eff (eff_storeN (vs := [.int .i64 _, .int .i64 _, .slice _ _ _]) h Try.sizeOf33 rfl rfl rfl rfl rfl (fun k _ _ => free0 k)) rfl rfl ?_
                        rintro _ w h
                        try simp only [splice, List.take_zero, List.take_succ_cons, List.take_nil, List.drop_succ_cons, List.drop_zero, List.drop_nil, List.nil_append, List.cons_append, List.append_nil, List.length_cons, List.length_nil, Nat.zero_add, Nat.reduceAdd] at h
                        refine WL.val run_assign rfl rfl ?_
                        refine WL.nil ?_
                        refine W.seq ?_
                        refine W.region ?_
                        refine WL.val run_move rfl rfl ?_
                        refine WL.val (run_not rfl) rfl rfl ?_
                        refine WL.val run_move rfl rfl ?_
                        refine WL.val (run_fieldAddr 2 Try.underlying33 rfl Try.sizeOf30 rfl rfl) rfl rfl ?_
                        refine WL.val (run_load1 Try.isAgg30 rfl (h.cellB rfl)) rfl rfl ?_
                        refine WL.val (run_bytesStr Try.underlying30 Try.underlying5 Try.underlying9 rfl (h.cellsO (v := .slice pa bs.length pc))) rfl rfl ?_
                        refine WL.val run_move rfl rfl ?_
                        refine WL.val (run_bytesStr Try.underlying30 Try.underlying5 Try.underlying9 rfl (h.readsTo C)) rfl rfl ?_
                        refine WL.val (run_neqStrF rfl rfl rfl) rfl rfl ?_
                        refine WL.val (run_pickF rfl) rfl rfl ?_
                        refine WL.val run_move rfl rfl ?_
                        refine WL.val (run_fieldAddr 0 Try.underlying33 rfl Try.sizeOf3 rfl rfl) rfl rfl ?_
                        refine WL.val (run_load1 Try.isAgg3 rfl (h.cellB rfl)) rfl rfl ?_
                        refine WL.val (run_neqF rfl rfl (rfl)) rfl rfl ?_
                        refine WL.val (run_pickF rfl) rfl rfl ?_
                        refine WL.val run_move rfl rfl ?_
                        refine WL.val (run_fieldAddr 1 Try.underlying33 rfl Try.sizeOf3 rfl rfl) rfl rfl ?_
                        refine WL.val (run_load1 Try.isAgg3 rfl (h.cellB rfl)) rfl rfl ?_
                        refine WL.val (run_neqF rfl rfl (rfl)) rfl rfl ?_
                        refine WL.val (run_pickF rfl) rfl rfl ?_
                        refine WL.nil ?_
                        refine W.condF rfl ?_
                        refine W.skip ?_
                        refine W.region ?_
                        refine WL.val run_move rfl rfl ?_
                        refine WL.val (run_add rfl rfl (by omega) (by omega)) rfl rfl ?_
                        refine WL.val run_assign rfl rfl ?_
                        refine WL.nil ?_
                        -- round, path FFFFFLFLFLT
                        exact ⟨q + 1, ⟨_, mkE_of ⟨rfl, rfl, rfl, rfl, trivial⟩, by omega, by rw [show N - (q + 1) = N - q - 1 by omega]; exact h.to⟩, by show N - (q + 1) < N - q; omega⟩
                      · skip
                        refine W.exit ?_
                        refine W.seq ?_
                        obtain rfl : q = N := by omega
                        refine W.region ?_
                        refine WL.val run_move rfl rfl ?_
                        refine WL.eff (eff_call Try.call12 (waitingN h)) rfl rfl ?_
                        rintro _ w ⟨rfl, h⟩
                        refine WL.val (run_eqlT rfl rfl (by simp [mcp])) rfl rfl ?_
                        refine WL.val run_move rfl rfl ?_
                        refine WL.val run_move rfl rfl ?_
                        refine WL.eff (eff_call Try.call14 (copy_ok h)) rfl rfl ?_
                        rintro _ w ⟨hv, pool', _, h⟩
                        have e9 : copyOk (mcp bs (q - q)) 0 = false := by unfold copyOk; rw [mcp_none (by omega)]; rfl
                        have e10 : copy (mcp bs (q - q)) 0 = mcp bs (q - q) := by unfold copy; rw [mcp_none (by omega)]
                        rw [e9] at hv
                        subst hv
                        rw [e10] at h
                        refine WL.val (run_not rfl) rfl rfl ?_
                        refine WL.val (run_pickT rfl) rfl rfl ?_
                        refine WL.val run_move rfl rfl ?_
                        refine WL.val run_move rfl rfl ?_
                        refine WL.eff (eff_call Try.call13 (sentN h)) rfl rfl ?_
                        rintro _ w ⟨rfl, h⟩
                        refine WL.val (run_eqlT rfl rfl (rfl)) rfl rfl ?_
                        refine WL.val (run_pickT rfl) rfl rfl ?_
                        refine WL.val run_assign rfl rfl ?_
                        refine WL.nil ?_
                        refine W.ret ?_
                        refine bodyQ.r1 (v := .bool _) Try.results6 rfl ?_
                        -- path FFFFFLFLFLF
                        exact ⟨rfl, h.to⟩

theorem order_ok {al : Option Addr} {cl : Nat} {l : List UInt8} {tn : Nat} (ht : (tn : Int) ≤ IntKind.u8.max) (h : On W0 F w) (C : Gives F (Bytes (.slice al l.length cl) l)) :
    Calls Try.prog 4 #[.slice al l.length cl, .int .u8 (tn : Int)] w (Ret fun v w' => v = .bool true ∧ On W0 F w') := by
  refine enter Try.func4 rfl Try.ntmps4 rfl ?_
  obtain ⟨hc1, hc2⟩ := (h.reads C).bounds
  have hml := maxLen_eq
  refine W.seq ?_
  refine W.region ?_
  refine WL.val run_assign rfl rfl ?_
  refine WL.nil ?_
  refine W.seq ?_
  refine W.seq ?_
  refine W.region ?_
  refine WL.eff (eff_call Try.call9 (known_ok h)) rfl rfl ?_
  rintro _ w ⟨rfl, h⟩
  refine WL.val (run_not rfl) rfl rfl ?_
  refine WL.nil ?_
  refine W.condF rfl ?_
  refine W.skip ?_
  refine W.seq ?_
  refine W.seq ?_
  refine W.region ?_
  refine WL.val run_move rfl rfl ?_
  refine WL.val (run_lenSlice Try.underlying30 rfl) rfl rfl ?_
  refine WL.val (run_gtr rfl rfl) rfl rfl ?_
  refine WL.nil ?_
  refine W.condIf rfl (fun c7 => ?_) (fun c7 => ?_)
  · skip
    refine W.seq ?_
    refine W.region ?_
    refine WL.val run_assign rfl rfl ?_
    refine WL.nil ?_
    refine W.ret ?_
    refine bodyQ.r1 (v := .bool _) Try.results4 rfl ?_
    -- path T
    exact ⟨rfl, h⟩
  · skip
    refine W.skip ?_
    refine W.seq ?_
    have ht255 : (tn : Int) ≤ 255 := ht
    refine W.region ?_
    refine WL.eff (eff_call Try.call10 (new_ok h)) rfl rfl ?_
    rintro _ w (⟨hn, _, _⟩ | ⟨_, b, rfl, h⟩)
    · exfalso; omega
    have h := (h.pool0.p1).ownEmpty 1 none
    refine WL.val run_move rfl rfl ?_
    refine WL.val (run_extract rfl rfl) rfl rfl ?_
    refine WL.val (run_extract rfl rfl) rfl rfl ?_
    refine WL.val run_assign rfl rfl ?_
    refine WL.val run_assign rfl rfl ?_
    refine WL.nil ?_
    refine W.seq ?_
    refine W.region ?_
    refine WL.val run_assign rfl rfl ?_
    refine WL.nil ?_
    refine W.seq ?_
    refine W.seq ?_
    refine W.region ?_
    refine WL.val run_assign rfl rfl ?_
    refine WL.nil ?_
    refine W.block ?_
    refine W.loop (fun (k : Nat) env w => ∃ j pool ws nw aw cw, env = mkE j [(0, .slice al l.length cl), (1, .int .u8 (tn : Int)), (5, .pointer (some ⟨b, 0, none⟩)), (7, .slice aw nw cw), (8, .int .i64 (k : Int))] ∧ k ≤ l.length ∧ ws = (wanted l (tn % 2 ^ 2) k).map UInt8.ofNat ∧ nw = ws.length ∧ On W0 (NetP 58 b (mord l k) pool :: Pool pool :: Own 1 (.slice aw nw cw) nw (bytesV ws) :: F) w) (fun k => l.length - k) (0) ?_ ?_
    · exact ⟨_, [], [], 0, none, 0, mkE_of ⟨rfl, rfl, rfl, rfl, rfl, trivial⟩, Nat.zero_le _, rfl, rfl, h.q2⟩
    · rintro k env w ⟨j, pool, ws, nw, aw, cw, rfl, hk, hws, hnw, h⟩
      refine W.seq ?_
      refine W.seq ?_
      refine W.region ?_
      refine WL.val run_move rfl rfl ?_
      refine WL.val run_move rfl rfl ?_
      refine WL.val (run_lenSlice Try.underlying30 rfl) rfl rfl ?_
      refine WL.val (run_lss rfl rfl) rfl rfl ?_
      refine WL.nil ?_
      refine W.condIf rfl (fun c17 => ?_) (fun c17 => ?_)
      · skip
        refine W.skip ?_
        refine W.seq ?_
        have hkl : k < l.length := by omega
        obtain ⟨bl, ol, hal⟩ := (h.reads (Gives.to C)).addr (by omega)
        subst hal
        obtain ⟨x, hx⟩ : ∃ x, l[k]? = some x := ⟨l[k], by simp⟩
        have hrow := bytes_row hx
        have hx256 := x.toNat_lt
        obtain ⟨hE, hS⟩ := mord_at hx (show k < 4096 by omega)
        have hwl : ws.length ≤ k := by rw [hws, List.length_map]; exact wanted_le
        refine W.block ?_
        refine W.seq ?_
        refine W.seq ?_
        refine W.draw Try.follows h (fun w h => ?_)
        refine WT.pure 0 rfl (by kernel_rfl) (fun w' => run_move) rfl rfl ?_
        refine WT.pure 1 rfl (by kernel_rfl) (fun w' => run_move) rfl rfl ?_
        refine WT.pure 2 rfl (by kernel_rfl) (fun w' => run_move) rfl rfl ?_
        refine WT.pure 3 rfl (by kernel_rfl) (fun w' => (run_indexAddr Try.underlying30 Try.sizeOf5 rfl rfl (by omega) (by omega))) rfl rfl ?_
        refine WT.load1 4 rfl (by kernel_rfl) Try.isAgg5 rfl ((h.reads (Gives.to C)).elem (i := k) (vs := [.int .u8 x.toNat]) (by omega) hrow 0 _ rfl) rfl rfl ?_
        refine WT.pure 5 rfl (by kernel_rfl) (fun w' => (run_shrN (j := 2) rfl rfl (by decide))) rfl rfl ?_
        refine WT.pure 6 rfl (by kernel_rfl) (fun w' => (run_andMod (n := 3) 2 rfl rfl (by show ((x.toNat / 2 ^ 2 : Nat) : Int) ≤ 255; omega) (by decide) rfl)) rfl rfl ?_
        refine WT.pure 7 rfl (by kernel_rfl) (fun w' => (run_convInt64 Try.underlying5 Try.underlying3 rfl (by omega) (by omega))) rfl rfl ?_
        refine WT.pure 8 rfl (by kernel_rfl) (fun w' => run_move) rfl rfl ?_
        refine WT.pure 9 rfl (by kernel_rfl) (fun w' => run_move) rfl rfl ?_
        refine WT.pure 10 rfl (by kernel_rfl) (fun w' => (run_indexAddr Try.underlying30 Try.sizeOf5 rfl rfl (by omega) (by omega))) rfl rfl ?_
        refine WT.load1 11 rfl (by kernel_rfl) Try.isAgg5 rfl ((h.reads (Gives.to C)).elem (i := k) (vs := [.int .u8 x.toNat]) (by omega) hrow 0 _ rfl) rfl rfl ?_
        refine WT.pure 12 rfl (by kernel_rfl) (fun w' => (run_andMod (n := 3) 2 rfl rfl (by show ((x.toNat : Nat) : Int) ≤ 255; omega) (by decide) rfl)) rfl rfl ?_
        refine WT.pure 13 rfl (by kernel_rfl) (fun w' => (run_convInt64 Try.underlying5 Try.underlying3 rfl (by omega) (by omega))) rfl rfl ?_
        refine WT.pure 14 rfl (by kernel_rfl) (fun w' => run_move) rfl rfl ?_
        refine WT.pure 15 rfl (by kernel_rfl) (fun w' => run_move) rfl rfl ?_
        refine WT.pure 16 rfl (by kernel_rfl) (fun w' => (run_indexAddr Try.underlying30 Try.sizeOf5 rfl rfl (by omega) (by omega))) rfl rfl ?_
        refine WT.load1 17 rfl (by kernel_rfl) Try.isAgg5 rfl ((h.reads (Gives.to C)).elem (i := k) (vs := [.int .u8 x.toNat]) (by omega) hrow 0 _ rfl) rfl rfl ?_
        refine WT.pure 18 rfl (by kernel_rfl) (fun w' => run_move) rfl rfl ?_
        refine WT.pure 19 rfl (by kernel_rfl) (fun w' => (run_convByte Try.underlying3 Try.underlying5 rfl)) rfl rfl ?_
        refine WT.eff 20 [false, true, true] rfl (by kernel_rfl) (by kernel_rfl) (eff_mkSlice (zl := [.int .u8 0, .int .u8 0]) (out := [.int .u8 _, .int .u8 _]) h Try.underlying30 Try.sizeOf5 Try.zeroValue5 (by decide) (by kernel_rfl) rfl rfl (by simp) (⟨⟨_, _, rfl, rfl, by decide⟩, ⟨⟨_, _, rfl, rfl, by decide⟩, trivial⟩⟩) rfl rfl (by simp [maxLen])) rfl rfl ?_
        rintro _ w ⟨b49, rfl, h⟩
        refine ⟨⟨(h.reads (Gives.to C)).elem (i := k) (vs := [.int .u8 x.toNat]) (by omega) hrow 0 _ rfl, (h.reads (Gives.to C)).elem (i := k) (vs := [.int .u8 x.toNat]) (by omega) hrow 0 _ rfl, trivial⟩, ?_⟩
        refine WT.eff 21 [false, false] rfl (by kernel_rfl) (by kernel_rfl) (eff_call Try.call11 (send_ok (bs := [x, UInt8.ofNat k]) ((h.fetch (Pool pool)).fetch (NetP 58 b (mord l k) pool)) (Gives.ownO (v := .slice (some ⟨b49, 0, none⟩) 2 2)) (by show (0 : Int) ≤ (k : Int); omega) (by show (k : Int) ≤ 1000000000000000000; omega))) rfl rfl ?_
        rintro _ w ⟨hv, pool', _, h⟩
        rw [hE] at hv
        subst hv
        rw [hS] at h
        refine ⟨trivial, ?_⟩
        refine WT.pure 22 rfl (by kernel_rfl) (fun w' => run_neqF rfl rfl (rfl)) rfl rfl ?_
        refine WT.done (by kernel_rfl) ?_
        refine W.condF rfl ?_
        refine W.skip ?_
        refine W.seq ?_
        refine W.region ?_
        refine WL.val run_move rfl rfl ?_
        refine WL.val run_move rfl rfl ?_
        refine WL.val (run_indexAddr Try.underlying30 Try.sizeOf5 rfl rfl (by omega) (by omega)) rfl rfl ?_
        refine WL.val (run_load1 Try.isAgg5 rfl ((h.reads (Gives.to C)).elem (i := k) (vs := [.int .u8 x.toNat]) (by omega) hrow 0 _ rfl)) rfl rfl ?_
        refine WL.val (run_andMod (n := 3) 2 rfl rfl (by show ((x.toNat : Nat) : Int) ≤ 255; omega) (by decide) rfl) rfl rfl ?_
        refine WL.val run_move rfl rfl ?_
        refine WL.val (run_andMod (n := 3) 2 rfl rfl (by show ((tn : Nat) : Int) ≤ 255; omega) (by decide) rfl) rfl rfl ?_
        refine WL.val (run_eql rfl rfl) rfl rfl ?_
        refine WL.nil ?_
        refine W.condIf rfl (fun c27 => ?_) (fun c27 => ?_)
        · skip
          refine W.region ?_
          refine WL.val run_move rfl rfl ?_
          refine WL.val run_move rfl rfl ?_
          refine WL.val (run_convByte Try.underlying3 Try.underlying5 rfl) rfl rfl ?_
          refine WL.eff (eff_mkSlice (zl := [.int .u8 0]) (out := [.int .u8 _]) h Try.underlying30 Try.sizeOf5 Try.zeroValue5 (by decide) (by kernel_rfl) rfl rfl (by simp) (⟨⟨_, _, rfl, rfl, by decide⟩, trivial⟩) rfl rfl (by simp [maxLen])) rfl rfl ?_
          rintro _ w ⟨b63, rfl, h⟩
          refine WL.eff (eff_app (c2 := 1) (bytes := 1) h rfl rfl (h.cellsO (v := .slice (some ⟨b63, 0, none⟩) 1 1)) Try.underlying30 rfl rfl rfl rfl rfl (by omega) (by omega) (by simp [Value.oneCell'])) rfl rfl ?_
          rintro _ w ⟨a64, c64, rfl, h⟩
          refine WL.val run_assign rfl rfl ?_
          refine WL.nil ?_
          refine W.region ?_
          refine WL.val run_move rfl rfl ?_
          refine WL.val (run_add rfl rfl (by omega) (by omega)) rfl rfl ?_
          refine WL.val run_assign rfl rfl ?_
          refine WL.nil ?_
          -- round, path FLTT
          exact ⟨k + 1, ⟨_, pool', ws ++ [UInt8.ofNat k], nw + 1, a64, c64, mkE_of ⟨rfl, rfl, rfl, rfl, rfl, trivial⟩, by omega, (by rw [hws, wanted_succ, if_pos (by rw [toOf_at hx]; omega), List.map_append]; rfl), (by rw [List.length_append, hnw]; rfl), (by rw [show bytesV (ws ++ [UInt8.ofNat k]) = bytesV ws ++ [byteV (UInt8.ofNat k)] by simp]; exact h.to)⟩, by show l.length - (k + 1) < l.length - k; omega⟩
        · skip
          refine W.skip ?_
          refine W.region ?_
          refine WL.val run_move rfl rfl ?_
          refine WL.val (run_add rfl rfl (by omega) (by omega)) rfl rfl ?_
          refine WL.val run_assign rfl rfl ?_
          refine WL.nil ?_
          -- round, path FLTF
          exact ⟨k + 1, ⟨_, pool', ws, nw, aw, cw, mkE_of ⟨rfl, rfl, rfl, rfl, rfl, trivial⟩, by omega, (by rw [hws, wanted_succ, if_neg (by rw [toOf_at hx]; omega)]), hnw, h.to⟩, by show l.length - (k + 1) < l.length - k; omega⟩
      · skip
        refine W.exit ?_
        refine W.seq ?_
        refine W.seq ?_
        obtain rfl : k = l.length := by omega
        have hwl : ws.length ≤ l.length := by rw [hws, List.length_map]; exact wanted_le
        have hwn : nw = (wanted l (tn % 2 ^ 2) l.length).length := by rw [hnw, hws, List.length_map]
        refine W.region ?_
        refine WL.val run_assign rfl rfl ?_
        refine WL.nil ?_
        refine W.block ?_
        refine W.loop (fun (i : Nat) env w => ∃ j m, env = mkE j [(0, .slice al l.length cl), (1, .int .u8 (tn : Int)), (5, .pointer (some ⟨b, 0, none⟩)), (7, .slice aw nw cw), (9, .int .i64 (i : Int))] ∧ i ≤ nw ∧ m.l.filter (fun p => p.t == ((tn % 2 ^ 2 : Nat) : Int)) = ((wanted l (tn % 2 ^ 2) l.length).drop i).map (opk l) ∧ m.l.length + i = l.length ∧ (m.s : Int) = ((l.length : Nat) : Int) ∧ On W0 (NetP 58 b m pool :: Pool pool :: Own 1 (.slice aw nw cw) nw (bytesV ws) :: F) w) (fun i => nw - i) (0) ?_ ?_
        · exact ⟨_, mord l l.length, mkE_of ⟨rfl, rfl, rfl, rfl, rfl, trivial⟩, Nat.zero_le _, mord_filter, by simp [mord], rfl, h⟩
        · rintro i env w ⟨j, m, rfl, hi, hf, hml2, hms, h⟩
          refine W.seq ?_
          refine W.seq ?_
          refine W.region ?_
          refine WL.val run_move rfl rfl ?_
          refine WL.val run_move rfl rfl ?_
          refine WL.val (run_lenSlice Try.underlying30 rfl) rfl rfl ?_
          refine WL.val (run_lss rfl rfl) rfl rfl ?_
          refine WL.nil ?_
          refine W.condIf rfl (fun c35 => ?_) (fun c35 => ?_)
          · skip
            refine W.skip ?_
            refine W.seq ?_
            have hiw : i < nw := by omega
            obtain ⟨q, hq⟩ : ∃ q, (wanted l (tn % 2 ^ 2) l.length)[i]? = some q := ⟨_, List.getElem?_eq_getElem (by omega)⟩
            have hqm := List.mem_of_getElem? hq
            have hql := wanted_lt hqm
            have hqt := wanted_to hqm
            obtain ⟨y, hy⟩ : ∃ y, l[q]? = some y := ⟨l[q], by simp⟩
            rw [toOf_at hy] at hqt
            have hy256 := y.toNat_lt
            obtain ⟨ht1, ht2, ht3, ht4⟩ := order_take hf hq
            rw [opk_at hy] at ht1
            obtain ⟨bl, ol, hal⟩ := (h.reads (Gives.to C)).addr (by omega)
            subst hal
            obtain ⟨bw, ow, haw⟩ := Own.addr (h.p2) (by omega)
            subst haw
            have hqb : (UInt8.ofNat q).toNat = q := by rw [UInt8.toNat_ofNat']; omega
            have hrw : ((bytesV ws).drop (i * 1)).take 1 = [.int .u8 (q : Int)] := by
              have := bytes_row (bs := ws) (k := i) (x := UInt8.ofNat q) (by rw [hws, List.getElem?_map, hq]; rfl)
              rw [hqb] at this
              exact this
            refine W.block ?_
            refine W.seq ?_
            refine W.region ?_
            refine WL.val run_move rfl rfl ?_
            refine WL.val run_move rfl rfl ?_
            refine WL.val (run_andMod (n := 3) 2 rfl rfl (by show ((tn : Nat) : Int) ≤ 255; omega) (by decide) rfl) rfl rfl ?_
            refine WL.val (run_convInt64 Try.underlying5 Try.underlying3 rfl (by omega) (by omega)) rfl rfl ?_
            refine WL.eff (eff_call Try.call15 (take_ok h)) rfl rfl ?_
            rintro _ w hR
            rw [ht1] at hR
            obtain ⟨pa, pc, rfl, h⟩ := hR
            obtain ⟨bp, op, hpa⟩ := Own.addr h (by simp)
            subst hpa
            refine WL.val run_move rfl rfl ?_
            refine WL.val (run_extract rfl rfl) rfl rfl ?_
            refine WL.val (run_extract rfl rfl) rfl rfl ?_
            refine WL.eff (eff_alloc h Try.zeroValue33 rfl) rfl rfl ?_
            rintro _ w ⟨b10, rfl, h⟩
            refine WL.eff (eff_storeN (vs := [.int .i64 _, .int .i64 _, .slice _ _ _]) h Try.sizeOf33 rfl rfl rfl rfl rfl (fun k _ _ => free0 k)) rfl rfl ?_
            rintro _ w h
            try simp only [splice, List.take_zero, List.take_succ_cons, List.take_nil, List.drop_succ_cons, List.drop_zero, List.drop_nil, List.nil_append, List.cons_append, List.append_nil, List.length_cons, List.length_nil, Nat.zero_add, Nat.reduceAdd] at h
            refine WL.val run_assign rfl rfl ?_
            refine WL.nil ?_
            refine W.seq ?_
            refine W.draw Try.follows h (fun w h => ?_)
            refine WT.pure 0 rfl (by kernel_rfl) (fun w' => run_move) rfl rfl ?_
            refine WT.pure 1 rfl (by kernel_rfl) (fun w' => (run_not rfl)) rfl rfl ?_
            refine WT.pure 2 rfl (by kernel_rfl) (fun w' => run_move) rfl rfl ?_
            refine WT.pure 3 rfl (by kernel_rfl) (fun w' => (run_fieldAddr 2 Try.underlying33 rfl Try.sizeOf30 rfl rfl)) rfl rfl ?_
            refine WT.load1 4 rfl (by kernel_rfl) Try.isAgg30 rfl (h.cellB rfl) rfl rfl ?_
            refine WT.pure 5 rfl (by kernel_rfl) (fun w' => (run_indexAddr Try.underlying30 Try.sizeOf5 rfl rfl (by omega) (by omega))) rfl rfl ?_
            refine WT.load1 6 rfl (by kernel_rfl) Try.isAgg5 rfl ((h.cellsO (v := .slice (some ⟨bp, op, none⟩) 2 pc)).elem (i := 1) (vs := [.int .u8 (q : Int)]) (by omega) (by show [Value.int .u8 (((UInt8.ofNat q).toNat : Nat) : Int)] = _; rw [hqb]) 0 _ rfl) rfl rfl ?_
            refine WT.pure 7 rfl (by kernel_rfl) (fun w' => run_move) rfl rfl ?_
            refine WT.pure 8 rfl (by kernel_rfl) (fun w' => run_move) rfl rfl ?_
            refine WT.pure 9 rfl (by kernel_rfl) (fun w' => (run_indexAddr Try.underlying30 Try.sizeOf5 rfl rfl (by omega) (by omega))) rfl rfl ?_
            refine WT.load1 10 rfl (by kernel_rfl) Try.isAgg5 rfl ((h.cellsO (v := .slice (some ⟨bw, ow, none⟩) nw cw)).elem (i := i) (vs := [.int .u8 (q : Int)]) (by omega) hrw 0 _ rfl) rfl rfl ?_
            refine WT.pure 11 rfl (by kernel_rfl) (fun w' => run_neqF rfl rfl (rfl)) rfl rfl ?_
            refine WT.pure 12 rfl (by kernel_rfl) (fun w' => (run_pickF rfl)) rfl rfl ?_
            refine WT.pure 13 rfl (by kernel_rfl) (fun w' => run_move) rfl rfl ?_
            refine WT.pure 14 rfl (by kernel_rfl) (fun w' => (run_fieldAddr 1 Try.underlying33 rfl Try.sizeOf3 rfl rfl)) rfl rfl ?_
            refine WT.load1 15 rfl (by kernel_rfl) Try.isAgg3 rfl (h.cellB rfl) rfl rfl ?_
            refine WT.pure 16 rfl (by kernel_rfl) (fun w' => run_move) rfl rfl ?_
            refine WT.pure 17 rfl (by kernel_rfl) (fun w' => (run_andMod (n := 3) 2 rfl rfl (by show ((tn : Nat) : Int) ≤ 255; omega) (by decide) rfl)) rfl rfl ?_
            refine WT.pure 18 rfl (by kernel_rfl) (fun w' => (run_convInt64 Try.underlying5 Try.underlying3 rfl (by omega) (by omega))) rfl rfl ?_
            refine WT.pure 19 rfl (by kernel_rfl) (fun w' => run_neqF rfl rfl (by rw [hqt])) rfl rfl ?_
            refine WT.pure 20 rfl (by kernel_rfl) (fun w' => (run_pickF rfl)) rfl rfl ?_
            refine WT.pure 21 rfl (by kernel_rfl) (fun w' => run_move) rfl rfl ?_
            refine WT.pure 22 rfl (by kernel_rfl) (fun w' => (run_fieldAddr 0 Try.underlying33 rfl Try.sizeOf3 rfl rfl)) rfl rfl ?_
            refine WT.load1 23 rfl (by kernel_rfl) Try.isAgg3 rfl (h.cellB rfl) rfl rfl ?_
            refine WT.pure 24 rfl (by kernel_rfl) (fun w' => run_move) rfl rfl ?_
            refine WT.pure 25 rfl (by kernel_rfl) (fun w' => run_move) rfl rfl ?_
            refine WT.pure 26 rfl (by kernel_rfl) (fun w' => run_move) rfl rfl ?_
            refine WT.pure 27 rfl (by kernel_rfl) (fun w' => (run_indexAddr Try.underlying30 Try.sizeOf5 rfl rfl (by omega) (by omega))) rfl rfl ?_
            refine WT.load1 28 rfl (by kernel_rfl) Try.isAgg5 rfl ((h.cellsO (v := .slice (some ⟨bw, ow, none⟩) nw cw)).elem (i := i) (vs := [.int .u8 (q : Int)]) (by omega) hrw 0 _ rfl) rfl rfl ?_
            refine WT.pure 29 rfl (by kernel_rfl) (fun w' => (run_indexAddr Try.underlying30 Try.sizeOf5 rfl rfl (by omega) (by omega))) rfl rfl ?_
            refine WT.load1 30 rfl (by kernel_rfl) Try.isAgg5 rfl ((h.reads (Gives.to C)).elem (i := q) (vs := [.int .u8 y.toNat]) (by omega) (bytes_row hy) 0 _ rfl) rfl rfl ?_
            refine WT.pure 31 rfl (by kernel_rfl) (fun w' => (run_shrN (j := 2) rfl rfl (by decide))) rfl rfl ?_
            refine WT.pure 32 rfl (by kernel_rfl) (fun w' => (run_andMod (n := 3) 2 rfl rfl (by show ((y.toNat / 2 ^ 2 : Nat) : Int) ≤ 255; omega) (by decide) rfl)) rfl rfl ?_
            refine WT.pure 33 rfl (by kernel_rfl) (fun w' => (run_convInt64 Try.underlying5 Try.underlying3 rfl (by omega) (by omega))) rfl rfl ?_
            refine WT.pure 34 rfl (by kernel_rfl) (fun w' => run_neqF rfl rfl (rfl)) rfl rfl ?_
            refine WT.pure 35 rfl (by kernel_rfl) (fun w' => (run_pickF rfl)) rfl rfl ?_
            refine WT.done (by kernel_rfl) ?_
            refine W.condF rfl ?_
            refine W.skip ?_
            refine W.region ?_
            refine WL.val run_move rfl rfl ?_
            refine WL.val (run_add rfl rfl (by omega) (by omega)) rfl rfl ?_
            refine WL.val run_assign rfl rfl ?_
            refine WL.nil ?_
            -- round, path FLFLT
            exact ⟨i + 1, ⟨_, out m (takeI m ((tn % 2 ^ 2 : Nat) : Int)), mkE_of ⟨rfl, rfl, rfl, rfl, rfl, trivial⟩, by omega, ht2, by omega, by rw [ht4]; exact hms, h.to⟩, by show nw - (i + 1) < nw - i; omega⟩
          · skip
            refine W.exit ?_
            refine W.seq ?_
            obtain rfl : i = nw := by omega
            obtain ⟨ho1, ho2⟩ := order_none (m := m) (t := tn % 2 ^ 2) (by rw [hf, List.drop_of_length_le (by omega)]; rfl)
            refine W.region ?_
            refine WL.val run_move rfl rfl ?_
            refine WL.val run_move rfl rfl ?_
            refine WL.val (run_andMod (n := 3) 2 rfl rfl (by show ((tn : Nat) : Int) ≤ 255; omega) (by decide) rfl) rfl rfl ?_
            refine WL.val (run_convInt64 Try.underlying5 Try.underlying3 rfl (by omega) (by omega)) rfl rfl ?_
            refine WL.eff (eff_call Try.call15 (take_ok h)) rfl rfl ?_
            rintro _ w hR
            rw [ho1, ho2] at hR
            obtain ⟨rfl, h⟩ := hR
            refine WL.val run_move rfl rfl ?_
            refine WL.val (run_extract rfl rfl) rfl rfl ?_
            refine WL.val (run_extract rfl rfl) rfl rfl ?_
            refine WL.eff (eff_alloc h Try.zeroValue33 rfl) rfl rfl ?_
            rintro _ w ⟨b12, rfl, h⟩
            refine WL.eff (eff_storeN (vs := [.int .i64 _, .int .i64 _, .slice _ _ _]) h Try.sizeOf33 rfl rfl rfl rfl rfl (fun k _ _ => free0 k)) rfl rfl ?_
            rintro _ w h
            try simp only [splice, List.take_zero, List.take_succ_cons, List.take_nil, List.drop_succ_cons, List.drop_zero, List.drop_nil, List.nil_append, List.cons_append, List.append_nil, List.length_cons, List.length_nil, Nat.zero_add, Nat.reduceAdd] at h
            refine WL.val run_assign rfl rfl ?_
            refine WL.nil ?_
            refine W.seq ?_
            refine W.region ?_
            refine WL.val run_move rfl rfl ?_
            refine WL.val (run_not rfl) rfl rfl ?_
            refine WL.val run_move rfl rfl ?_
            refine WL.val run_move rfl rfl ?_
            refine WL.eff (eff_call Try.call12 (waitingN (h.fetch (NetP 58 b m pool)))) rfl rfl ?_
            rintro _ w ⟨rfl, h⟩
            refine WL.val run_move rfl rfl ?_
            refine WL.val (run_lenSlice Try.underlying30 rfl) rfl rfl ?_
            refine WL.val run_move rfl rfl ?_
            refine WL.val (run_lenSlice Try.underlying30 rfl) rfl rfl ?_
            refine WL.val (run_sub rfl rfl (by omega) (by omega)) rfl rfl ?_
            refine WL.val (run_eqlT rfl rfl (by omega)) rfl rfl ?_
            refine WL.val (run_pickT rfl) rfl rfl ?_
            refine WL.val run_move rfl rfl ?_
            refine WL.val run_move rfl rfl ?_
            refine WL.eff (eff_call Try.call13 (sentN h)) rfl rfl ?_
            rintro _ w ⟨rfl, h⟩
            refine WL.val run_move rfl rfl ?_
            refine WL.val (run_lenSlice Try.underlying30 rfl) rfl rfl ?_
            refine WL.val (run_eqlT rfl rfl (hms)) rfl rfl ?_
            refine WL.val (run_pickT rfl) rfl rfl ?_
            refine WL.val run_assign rfl rfl ?_
            refine WL.nil ?_
            refine W.ret ?_
            refine bodyQ.r1 (v := .bool _) Try.results4 rfl ?_
            -- path FLFLF
            exact ⟨rfl, h.to⟩

theorem loses_ok {al : Option Addr} {cl : Nat} {acts : List A} (h : On W0 F w) (C : Gives F (Cells 5 (.slice al acts.length cl) acts.length (acts.flatMap A.cells))) (CB : ∀ a ∈ acts, Gives F (Bytes (.slice a.ax a.bs.length a.ac) a.bs)) :
    Calls Try.prog 7 #[.slice al acts.length cl] w (Ret fun v w' => v = .bool true ∧ On W0 F w') := by
  refine enter Try.func7 rfl Try.ntmps7 rfl ?_
  obtain ⟨hc1, hc2⟩ := (h.reads C).bounds
  have hml := maxLen_eq
  refine W.seq ?_
  refine W.region ?_
  refine WL.val run_assign rfl rfl ?_
  refine WL.nil ?_
  refine W.seq ?_
  refine W.seq ?_
  refine W.region ?_
  refine WL.eff (eff_call Try.call9 (known_ok h)) rfl rfl ?_
  rintro _ w ⟨rfl, h⟩
  refine WL.val (run_not rfl) rfl rfl ?_
  refine WL.nil ?_
  refine W.condF rfl ?_
  refine W.skip ?_
  refine W.seq ?_
  refine W.seq ?_
  refine W.region ?_
  refine WL.val run_move rfl rfl ?_
  refine WL.eff (eff_call Try.call16 (few_ok h C)) rfl rfl ?_
  rintro _ w ⟨t, rfl, hfew, h⟩
  cases t
  rotate_left
  · skip
    refine WL.val (run_not rfl) rfl rfl ?_
    refine WL.nil ?_
    refine W.condF rfl ?_
    refine W.skip ?_
    refine W.seq ?_
    obtain ⟨_, hlen, hbs⟩ := hfew.resolve_right (by simp)
    refine W.region ?_
    refine WL.eff (eff_call Try.call10 (new_ok h)) rfl rfl ?_
    rintro _ w (⟨hn, _, _⟩ | ⟨_, b, rfl, h⟩)
    · exfalso; omega
    have h := (h.pool0.p1).ownEmpty 5 none
    refine WL.val run_move rfl rfl ?_
    refine WL.val (run_extract rfl rfl) rfl rfl ?_
    refine WL.val (run_extract rfl rfl) rfl rfl ?_
    refine WL.val run_assign rfl rfl ?_
    refine WL.val run_assign rfl rfl ?_
    refine WL.nil ?_
    refine W.seq ?_
    refine W.region ?_
    refine WL.val run_assign rfl rfl ?_
    refine WL.nil ?_
    refine W.seq ?_
    refine W.seq ?_
    refine W.region ?_
    refine WL.val run_assign rfl rfl ?_
    refine WL.nil ?_
    refine W.block ?_
    refine W.loop (fun (k : Nat) env w => ∃ j pool S ns as_ cs, env = mkE j [(0, .slice al acts.length cl), (3, .pointer (some ⟨b, 0, none⟩)), (5, .slice as_ ns cs), (6, .int .i64 (k : Int))] ∧ k ≤ acts.length ∧ ns = S.length ∧ (∀ a ∈ S, a ∈ acts) ∧ ns ≤ k ∧ Kept S (runA 4 acts k) ∧ On W0 (NetP 58 b (runA 4 acts k) pool :: Pool pool :: Own 5 (.slice as_ ns cs) ns (S.flatMap A.cells) :: F) w) (fun k => acts.length - k) (0) ?_ ?_
    · exact ⟨_, [], [], 0, none, 0, mkE_of ⟨rfl, rfl, rfl, rfl, trivial⟩, Nat.zero_le _, rfl, (by simp), Nat.le_refl _, ⟨(by intro p hp; cases hp), rfl⟩, h.q2⟩
    · rintro k env w ⟨j, pool, S, ns, as_, cs, rfl, hk, hns, hsub, hnk, K, h⟩
      refine W.seq ?_
      refine W.seq ?_
      refine W.region ?_
      refine WL.val run_move rfl rfl ?_
      refine WL.val run_move rfl rfl ?_
      refine WL.val (run_lenSlice Try.underlying37 rfl) rfl rfl ?_
      refine WL.val (run_lss rfl rfl) rfl rfl ?_
      refine WL.nil ?_
      refine W.condIf rfl (fun c17 => ?_) (fun c17 => ?_)
      · skip
        refine W.skip ?_
        refine W.seq ?_
        have hkl : k < acts.length := by omega
        obtain ⟨bq, oq, hal⟩ := (h.reads (Gives.to C)).addr (by omega)
        subst hal
        obtain ⟨⟨ao, af, at_, an, ax, ac, abs⟩, hq⟩ : ∃ a, acts[k]? = some a := ⟨acts[k], by simp⟩
        have hrow := drop_flatMap A.cells 5 A.cells_length acts _ _ hq
        have hB := CB _ (List.mem_of_getElem? hq)
        obtain ⟨hs0, hs1⟩ := runA_s 4 acts k
        refine W.block ?_
        refine W.seq ?_
        refine W.region ?_
        refine WL.val run_move rfl rfl ?_
        refine WL.val run_move rfl rfl ?_
        refine WL.val (run_indexAddr Try.underlying37 Try.sizeOf44 rfl rfl (by omega) (by omega)) rfl rfl ?_
        refine WL.val (run_loadN Try.isAgg44 Try.sizeOf44 rfl rfl ((h.reads (Gives.to C)).elem (i := k) (vs := [.int .i64 ao, .int .i64 af, .int .i64 at_, .int .i64 an, .slice ax abs.length ac]) (by omega) hrow)) rfl rfl ?_
        refine WL.eff (eff_alloc h Try.zeroValue44 rfl) rfl rfl ?_
        rintro _ w ⟨b7, rfl, h⟩
        refine WL.eff (eff_storeN (vs := [.int .i64 _, .int .i64 _, .int .i64 _, .int .i64 _, .slice _ _ _]) h Try.sizeOf44 rfl rfl rfl rfl rfl (fun k _ _ => free0 k)) rfl rfl ?_
        rintro _ w h
        try simp only [splice, List.take_zero, List.take_succ_cons, List.take_nil, List.drop_succ_cons, List.drop_zero, List.drop_nil, List.nil_append, List.cons_append, List.append_nil, List.length_cons, List.length_nil, Nat.zero_add, Nat.reduceAdd] at h
        refine WL.nil ?_
        refine W.seq ?_
        refine W.region ?_
        refine WL.val (run_fieldAddr 0 Try.underlying44 rfl Try.sizeOf3 rfl rfl) rfl rfl ?_
        refine WL.val (run_load1 Try.isAgg3 rfl (h.cellB rfl)) rfl rfl ?_
        refine WL.nil ?_
        refine W.block ?_
        refine W.seq ?_
        refine W.region ?_
        refine WL.val (run_eql rfl rfl) rfl rfl ?_
        refine WL.val run_assign rfl rfl ?_
        refine WL.nil ?_
        refine W.condIf rfl (fun c25 => ?_) (fun c25 => ?_)
        · skip
          refine W.seq ?_
          refine W.region ?_
          refine WL.val run_move rfl rfl ?_
          refine WL.val (run_fieldAddr 1 Try.underlying44 rfl Try.sizeOf3 rfl rfl) rfl rfl ?_
          refine WL.val (run_load1 Try.isAgg3 rfl (h.cellB rfl)) rfl rfl ?_
          refine WL.val (run_fieldAddr 2 Try.underlying44 rfl Try.sizeOf3 rfl rfl) rfl rfl ?_
          refine WL.val (run_load1 Try.isAgg3 rfl (h.cellB rfl)) rfl rfl ?_
          refine WL.val (run_fieldAddr 4 Try.underlying44 rfl Try.sizeOf30 rfl rfl) rfl rfl ?_
          refine WL.val (run_load1 Try.isAgg30 rfl (h.cellB rfl)) rfl rfl ?_
          refine WL.eff (eff_call Try.call11 (send_ok ((h.fetch (Pool pool)).fetch (NetP 58 b (runA 4 acts k) pool)) (Gives.to hB) hs0 (by omega))) rfl rfl ?_
          rintro _ w ⟨rfl, pool', _, h⟩
          have hact : act (runA 4 acts k) ⟨ao, af, at_, an, ax, ac, abs⟩ = send (runA 4 acts k) af at_ abs := by unfold act; rw [if_pos c25]
          rw [← hact, runA_succ hq] at h
          refine WL.dec (run_eql rfl rfl) rfl rfl (fun c43 => ?_) (fun c43 => ?_)
          · skip
            refine WL.nil ?_
            refine W.condT rfl ?_
            refine W.region ?_
            refine WL.val run_move rfl rfl ?_
            refine WL.val (run_loadB (vs := [.int .i64 _, .int .i64 _, .int .i64 _, .int .i64 _, .slice _ _ _]) h Try.isAgg44 Try.sizeOf44 rfl rfl rfl) rfl rfl ?_
            refine WL.eff (eff_mkSlice (zl := [.int .i64 0, .int .i64 0, .int .i64 0, .int .i64 0, .slice none 0 0]) (out := [.int .i64 _, .int .i64 _, .int .i64 _, .int .i64 _, .slice _ _ _]) h Try.underlying37 Try.sizeOf44 Try.zeroValue44 (by decide) (by kernel_rfl) rfl rfl (by simp) (⟨⟨_, _, rfl, rfl, by decide⟩, trivial⟩) rfl rfl (by simp [maxLen])) rfl rfl ?_
            rintro _ w ⟨b46, rfl, h⟩
            refine WL.eff (eff_app (c2 := 1) (bytes := 56) h rfl rfl (h.cellsO (v := .slice (some ⟨b46, 0, none⟩) 1 1)) Try.underlying37 rfl rfl rfl rfl rfl (by omega) (by omega) (by simp [Value.oneCell'])) rfl rfl ?_
            rintro _ w ⟨a47, c47, rfl, h⟩
            refine WL.val run_assign rfl rfl ?_
            refine WL.nil ?_
            refine W.region ?_
            refine WL.val run_move rfl rfl ?_
            refine WL.val (run_add rfl rfl (by omega) (by omega)) rfl rfl ?_
            refine WL.val run_assign rfl rfl ?_
            refine WL.nil ?_
            -- round, path TLTTT
            exact ⟨k + 1, ⟨_, pool', S ++ [⟨ao, af, at_, an, ax, ac, abs⟩], ns + 1, a47, c47, mkE_of ⟨rfl, rfl, rfl, rfl, trivial⟩, by omega, (by rw [List.length_append, hns]; rfl), (fun a ha => by rcases List.mem_append.1 ha with h1 | h1; exact hsub a h1; rw [List.mem_singleton.1 h1]; exact List.mem_of_getElem? hq), by omega, (by rw [← runA_succ hq]; exact K.sent c25 c43), (by rw [show (S ++ [(⟨ao, af, at_, an, ax, ac, abs⟩ : A)]).flatMap A.cells = S.flatMap A.cells ++ [.int .i64 ao, .int .i64 af, .int .i64 at_, .int .i64 an, .slice ax abs.length ac] by rw [List.flatMap_append]; rfl]; exact h.to)⟩, by show acts.length - (k + 1) < acts.length - k; omega⟩
          · skip
            refine WL.nil ?_
            refine W.condF rfl ?_
            refine W.skip ?_
            refine W.region ?_
            refine WL.val run_move rfl rfl ?_
            refine WL.val (run_add rfl rfl (by omega) (by omega)) rfl rfl ?_
            refine WL.val run_assign rfl rfl ?_
            refine WL.nil ?_
            -- round, path TLTTF
            exact ⟨k + 1, ⟨_, pool', S, ns, as_, cs, mkE_of ⟨rfl, rfl, rfl, rfl, trivial⟩, by omega, hns, hsub, by omega, (by rw [← runA_succ hq]; exact K.refused c25 c43), h.to⟩, by show acts.length - (k + 1) < acts.length - k; omega⟩
        · skip
          refine W.seq ?_
          refine W.seq ?_
          refine W.region ?_
          refine WL.dec (run_eql rfl rfl) rfl rfl (fun c49 => ?_) (fun c49 => ?_)
          · skip
            refine WL.val run_assign rfl rfl ?_
            refine WL.nil ?_
            refine W.condT rfl ?_
            refine W.skip ?_
            refine W.condT rfl ?_
            refine W.seq ?_
            refine W.region ?_
            refine WL.eff (eff_alloc h Try.zeroValue33 rfl) rfl rfl ?_
            rintro _ w ⟨b8, rfl, h⟩
            refine WL.nil ?_
            refine W.seq ?_
            refine W.region ?_
            refine WL.val run_assign rfl rfl ?_
            refine WL.nil ?_
            refine W.seq ?_
            refine W.seq ?_
            refine W.region ?_
            refine WL.val (run_fieldAddr 0 Try.underlying44 rfl Try.sizeOf3 rfl rfl) rfl rfl ?_
            refine WL.val (run_load1 Try.isAgg3 rfl (h.cellB rfl)) rfl rfl ?_
            refine WL.val (run_eqlF rfl rfl (by omega)) rfl rfl ?_
            refine WL.nil ?_
            refine W.condF rfl ?_
            refine W.region ?_
            refine WL.val run_move rfl rfl ?_
            refine WL.val (run_fieldAddr 3 Try.underlying44 rfl Try.sizeOf3 rfl rfl) rfl rfl ?_
            refine WL.val (run_load1 Try.isAgg3 rfl (h.cellB rfl)) rfl rfl ?_
            refine WL.eff (eff_call Try.call22 (deliver_ok ((h.fetch (Pool pool)).fetch (NetP 58 b (runA 4 acts k) pool)))) rfl rfl ?_
            rintro _ w hR
            have hact : act (runA 4 acts k) ⟨ao, af, at_, an, ax, ac, abs⟩ = out (runA 4 acts k) an := by unfold act; rw [if_neg c25, if_pos c49]
            rw [← hact, runA_succ hq] at hR
            rcases hR.elim with ⟨⟨pf, pt, pbs⟩, pa, pc, hat, rfl, h⟩ | ⟨hat, rfl, h⟩
            · skip
              refine WL.val run_move rfl rfl ?_
              refine WL.val (run_extract rfl rfl) rfl rfl ?_
              refine WL.val (run_extract rfl rfl) rfl rfl ?_
              refine WL.eff (eff_storeN (vs := [.int .i64 _, .int .i64 _, .slice _ _ _]) h Try.sizeOf33 rfl rfl rfl rfl rfl (fun k _ _ => free0 k)) rfl rfl ?_
              rintro _ w h
              try simp only [splice, List.take_zero, List.take_succ_cons, List.take_nil, List.drop_succ_cons, List.drop_zero, List.drop_nil, List.nil_append, List.cons_append, List.append_nil, List.length_cons, List.length_nil, Nat.zero_add, Nat.reduceAdd] at h
              refine WL.val run_assign rfl rfl ?_
              refine WL.nil ?_
              refine W.seq ?_
              refine W.seq ?_
              refine W.region ?_
              refine WL.val run_move rfl rfl ?_
              refine WL.val (run_not rfl) rfl rfl ?_
              refine WL.nil ?_
              refine W.condF rfl ?_
              refine W.skip ?_
              refine W.seq ?_
              refine W.region ?_
              refine WL.val run_assign rfl rfl ?_
              refine WL.nil ?_
              refine W.cut (fun env w => ∃ j, env = mkE j [(0, .slice (some ⟨bq, oq, none⟩) acts.length cl), (3, .pointer (some ⟨b, 0, none⟩)), (5, .slice as_ ns cs), (6, .int .i64 (k : Int)), (10, .bool true)] ∧ On W0 (NetP 58 b (runA 4 acts (k + 1)) pool :: Pool pool :: Own 5 (.slice as_ ns cs) ns (S.flatMap A.cells) :: F) w) ?_ ?_
              · skip
                refine W.seq ?_
                refine W.region ?_
                refine WL.val run_assign rfl rfl ?_
                refine WL.nil ?_
                refine W.block ?_
                refine W.loop (fun (kk : Nat) env w => ∃ j, env = mkE j [(0, .slice (some ⟨bq, oq, none⟩) acts.length cl), (3, .pointer (some ⟨b, 0, none⟩)), (5, .slice as_ ns cs), (6, .int .i64 (k : Int)), (8, .pointer (some ⟨b8, 0, none⟩)), (10, .bool (decide (was S ⟨pf, pt, pbs⟩ kk = true))), (11, .int .i64 (kk : Int))] ∧ kk ≤ ns ∧ On W0 (blk b8 [.int .i64 pf, .int .i64 pt, .slice pa pbs.length pc] 33 :: OwnB (.slice pa pbs.length pc) pbs :: NetP 58 b (runA 4 acts (k + 1)) pool :: Pool pool :: Own 5 (.slice as_ ns cs) ns (S.flatMap A.cells) :: F) w) (fun kk => ns - kk) (0) ?_ ?_
                · exact ⟨_, mkE_of ⟨rfl, rfl, rfl, rfl, rfl, (by show Value.bool false = Value.bool (decide (was S _ 0 = true)); simp [was]), rfl, trivial⟩, Nat.zero_le _, h.to⟩
                · rintro kk env w ⟨j, rfl, hkk, h⟩
                  refine W.seq ?_
                  refine W.seq ?_
                  refine W.region ?_
                  refine WL.val run_move rfl rfl ?_
                  refine WL.val run_move rfl rfl ?_
                  refine WL.val (run_lenSlice Try.underlying37 rfl) rfl rfl ?_
                  refine WL.val (run_lss rfl rfl) rfl rfl ?_
                  refine WL.nil ?_
                  refine W.condIf rfl (fun c50 => ?_) (fun c50 => ?_)
                  · skip
                    refine W.skip ?_
                    refine W.seq ?_
                    have hkn : kk < S.length := by omega
                    obtain ⟨b5, o5, ha5⟩ := Own.addr h.p4 (by omega)
                    subst ha5
                    obtain ⟨⟨bo, bf, bt, bn, bx, bc, bbs⟩, hqk⟩ : ∃ a, S[kk]? = some a := ⟨S[kk], by simp⟩
                    have hrS := drop_flatMap A.cells 5 A.cells_length S _ _ hqk
                    have hB2 := CB _ (hsub _ (List.mem_of_getElem? hqk))
                    refine W.block ?_
                    refine W.draw Try.follows h (fun w h => ?_)
                    refine WT.dec 0 rfl (by kernel_rfl) (fun w' => run_move) rfl rfl (fun c76 => ?_) (fun c76 => ?_)
                    · skip
                      refine WT.pure 1 rfl (by kernel_rfl) (fun w' => run_move) rfl rfl ?_
                      refine WT.skip 2 rfl (by kernel_rfl) rfl rfl ?_
                      refine WT.skip 3 rfl (by kernel_rfl) rfl rfl ?_
                      refine WT.skip 4 rfl (by kernel_rfl) rfl rfl ?_
                      refine WT.skip 5 rfl (by kernel_rfl) rfl rfl ?_
                      refine WT.skip 6 rfl (by kernel_rfl) rfl rfl ?_
                      refine WT.skip 7 rfl (by kernel_rfl) rfl rfl ?_
                      refine WT.skip 8 rfl (by kernel_rfl) rfl rfl ?_
                      refine WT.skip 9 rfl (by kernel_rfl) rfl rfl ?_
                      refine WT.skip 10 rfl (by kernel_rfl) rfl rfl ?_
                      refine WT.skip 11 rfl (by kernel_rfl) rfl rfl ?_
                      refine WT.skip 12 rfl (by kernel_rfl) rfl rfl ?_
                      refine WT.skip 13 rfl (by kernel_rfl) rfl rfl ?_
                      refine WT.skip 14 rfl (by kernel_rfl) rfl rfl ?_
                      refine WT.skip 15 rfl (by kernel_rfl) rfl rfl ?_
                      refine WT.skip 16 rfl (by kernel_rfl) rfl rfl ?_
                      refine WT.skip 17 rfl (by kernel_rfl) rfl rfl ?_
                      refine WT.skip 18 rfl (by kernel_rfl) rfl rfl ?_
                      refine WT.skip 19 rfl (by kernel_rfl) rfl rfl ?_
                      refine WT.skip 20 rfl (by kernel_rfl) rfl rfl ?_
                      refine WT.skip 21 rfl (by kernel_rfl) rfl rfl ?_
                      refine WT.skip 22 rfl (by kernel_rfl) rfl rfl ?_
                      refine WT.skip 23 rfl (by kernel_rfl) rfl rfl ?_
                      refine WT.skip 24 rfl (by kernel_rfl) rfl rfl ?_
                      refine WT.skip 25 rfl (by kernel_rfl) rfl rfl ?_
                      refine WT.skip 26 rfl (by kernel_rfl) rfl rfl ?_
                      refine WT.skip 27 rfl (by kernel_rfl) rfl rfl ?_
                      refine WT.skip 28 rfl (by kernel_rfl) rfl rfl ?_
                      refine WT.skip 29 rfl (by kernel_rfl) rfl rfl ?_
                      refine WT.skip 30 rfl (by kernel_rfl) rfl rfl ?_
                      refine WT.skip 31 rfl (by kernel_rfl) rfl rfl ?_
                      refine WT.pure 32 rfl (by kernel_rfl) (fun w' => (run_pickT rfl)) rfl rfl ?_
                      refine WT.pure 33 rfl (by kernel_rfl) (fun w' => run_assign) rfl rfl ?_
                      refine WT.done (by kernel_rfl) ?_
                      refine W.region ?_
                      refine WL.val run_move rfl rfl ?_
                      refine WL.val (run_add rfl rfl (by omega) (by omega)) rfl rfl ?_
                      refine WL.val run_assign rfl rfl ?_
                      refine WL.nil ?_
                      -- round, path TLTFTTLTT
                      exact ⟨kk + 1, ⟨_, mkE_of ⟨rfl, rfl, rfl, rfl, rfl, (by show Value.bool true = Value.bool (decide (was S _ (kk + 1) = true)); rw [was_succ hqk]; simp [c76]), rfl, trivial⟩, by omega, h.to⟩, by show ns - (kk + 1) < ns - kk; omega⟩
                    · skip
                      refine WT.pure 1 rfl (by kernel_rfl) (fun w' => run_move) rfl rfl ?_
                      refine WT.pure 2 rfl (by kernel_rfl) (fun w' => run_move) rfl rfl ?_
                      refine WT.pure 3 rfl (by kernel_rfl) (fun w' => run_move) rfl rfl ?_
                      refine WT.pure 4 rfl (by kernel_rfl) (fun w' => (run_indexAddr Try.underlying37 Try.sizeOf44 rfl rfl (by omega) (by omega))) rfl rfl ?_
                      refine WT.pure 5 rfl (by kernel_rfl) (fun w' => (run_fieldAddr 1 Try.underlying44 rfl Try.sizeOf3 rfl rfl)) rfl rfl ?_
                      refine WT.load1 6 rfl (by kernel_rfl) Try.isAgg3 rfl ((h.cellsO (v := .slice (some ⟨b5, o5, none⟩) ns cs)).elem (i := kk) (vs := [.int .i64 bo, .int .i64 bf, .int .i64 bt, .int .i64 bn, .slice bx bbs.length bc]) (by omega) hrS 1 _ rfl) rfl rfl ?_
                      refine WT.pure 7 rfl (by kernel_rfl) (fun w' => (run_fieldAddr 0 Try.underlying33 rfl Try.sizeOf3 rfl rfl)) rfl rfl ?_
                      refine WT.load1 8 rfl (by kernel_rfl) Try.isAgg3 rfl (h.cellB rfl) rfl rfl ?_
                      refine WT.dec 9 rfl (by kernel_rfl) (fun w' => (run_eql rfl rfl)) rfl rfl (fun c85 => ?_) (fun c85 => ?_)
                      · skip
                        refine WT.pure 10 rfl (by kernel_rfl) (fun w' => run_move) rfl rfl ?_
                        refine WT.pure 11 rfl (by kernel_rfl) (fun w' => run_move) rfl rfl ?_
                        refine WT.pure 12 rfl (by kernel_rfl) (fun w' => run_move) rfl rfl ?_
                        refine WT.pure 13 rfl (by kernel_rfl) (fun w' => (run_indexAddr Try.underlying37 Try.sizeOf44 rfl rfl (by omega) (by omega))) rfl rfl ?_
                        refine WT.pure 14 rfl (by kernel_rfl) (fun w' => (run_fieldAddr 2 Try.underlying44 rfl Try.sizeOf3 rfl rfl)) rfl rfl ?_
                        refine WT.load1 15 rfl (by kernel_rfl) Try.isAgg3 rfl ((h.cellsO (v := .slice (some ⟨b5, o5, none⟩) ns cs)).elem (i := kk) (vs := [.int .i64 bo, .int .i64 bf, .int .i64 bt, .int .i64 bn, .slice bx bbs.length bc]) (by omega) hrS 2 _ rfl) rfl rfl ?_
                        refine WT.pure 16 rfl (by kernel_rfl) (fun w' => (run_fieldAddr 1 Try.underlying33 rfl Try.sizeOf3 rfl rfl)) rfl rfl ?_
                        refine WT.load1 17 rfl (by kernel_rfl) Try.isAgg3 rfl (h.cellB rfl) rfl rfl ?_
                        refine WT.dec 18 rfl (by kernel_rfl) (fun w' => (run_eql rfl rfl)) rfl rfl (fun c94 => ?_) (fun c94 => ?_)
                        · skip
                          refine WT.pure 19 rfl (by kernel_rfl) (fun w' => (run_pickT rfl)) rfl rfl ?_
                          refine WT.pure 20 rfl (by kernel_rfl) (fun w' => run_move) rfl rfl ?_
                          refine WT.pure 21 rfl (by kernel_rfl) (fun w' => run_move) rfl rfl ?_
                          refine WT.pure 22 rfl (by kernel_rfl) (fun w' => run_move) rfl rfl ?_
                          refine WT.pure 23 rfl (by kernel_rfl) (fun w' => (run_indexAddr Try.underlying37 Try.sizeOf44 rfl rfl (by omega) (by omega))) rfl rfl ?_
                          refine WT.pure 24 rfl (by kernel_rfl) (fun w' => (run_fieldAddr 4 Try.underlying44 rfl Try.sizeOf30 rfl rfl)) rfl rfl ?_
                          refine WT.load1 25 rfl (by kernel_rfl) Try.isAgg30 rfl ((h.cellsO (v := .slice (some ⟨b5, o5, none⟩) ns cs)).elem (i := kk) (vs := [.int .i64 bo, .int .i64 bf, .int .i64 bt, .int .i64 bn, .slice bx bbs.length bc]) (by omega) hrS 4 _ rfl) rfl rfl ?_
                          refine WT.take 26 (fun w => Bytes (.slice bx bbs.length bc) (bbs) (hp w)) rfl (by kernel_rfl) rfl rfl (h.reads (Gives.to hB2)) (fun w' hC => run_bytesStr Try.underlying30 Try.underlying5 Try.underlying9 rfl hC) ?_
                          refine WT.pure 27 rfl (by kernel_rfl) (fun w' => (run_fieldAddr 2 Try.underlying33 rfl Try.sizeOf30 rfl rfl)) rfl rfl ?_
                          refine WT.load1 28 rfl (by kernel_rfl) Try.isAgg30 rfl (h.cellB rfl) rfl rfl ?_
                          refine WT.take 29 (fun w => Bytes (.slice pa pbs.length pc) (pbs) (hp w)) rfl (by kernel_rfl) rfl rfl (h.cellsO (v := .slice pa pbs.length pc)) (fun w' hC => run_bytesStr Try.underlying30 Try.underlying5 Try.underlying9 rfl hC) ?_
                          refine WT.dec 30 rfl (by kernel_rfl) (fun w' => (run_eqlStr rfl rfl)) rfl rfl (fun c106 => ?_) (fun c106 => ?_)
                          · skip
                            refine WT.pure 31 rfl (by kernel_rfl) (fun w' => (run_pickT rfl)) rfl rfl ?_
                            refine WT.pure 32 rfl (by kernel_rfl) (fun w' => (run_pickF rfl)) rfl rfl ?_
                            refine WT.pure 33 rfl (by kernel_rfl) (fun w' => run_assign) rfl rfl ?_
                            refine WT.done (by kernel_rfl) ?_
                            refine W.region ?_
                            refine WL.val run_move rfl rfl ?_
                            refine WL.val (run_add rfl rfl (by omega) (by omega)) rfl rfl ?_
                            refine WL.val run_assign rfl rfl ?_
                            refine WL.nil ?_
                            -- round, path TLTFTTLTFTTT
                            simp [Go.ByteArray.toList_eq] at c106
                            exact ⟨kk + 1, ⟨_, mkE_of ⟨rfl, rfl, rfl, rfl, rfl, (by show Value.bool true = Value.bool (decide (was S _ (kk + 1) = true)); rw [was_succ hqk]; simp [c76, c85, c94, c106]), rfl, trivial⟩, by omega, h.to⟩, by show ns - (kk + 1) < ns - kk; omega⟩
                          · skip
                            refine WT.pure 31 rfl (by kernel_rfl) (fun w' => (run_pickT rfl)) rfl rfl ?_
                            refine WT.pure 32 rfl (by kernel_rfl) (fun w' => (run_pickF rfl)) rfl rfl ?_
                            refine WT.pure 33 rfl (by kernel_rfl) (fun w' => run_assign) rfl rfl ?_
                            refine WT.done (by kernel_rfl) ?_
                            refine W.region ?_
                            refine WL.val run_move rfl rfl ?_
                            refine WL.val (run_add rfl rfl (by omega) (by omega)) rfl rfl ?_
                            refine WL.val run_assign rfl rfl ?_
                            refine WL.nil ?_
                            -- round, path TLTFTTLTFTTF
                            simp [Go.ByteArray.toList_eq] at c106
                            exact ⟨kk + 1, ⟨_, mkE_of ⟨rfl, rfl, rfl, rfl, rfl, (by show Value.bool false = Value.bool (decide (was S _ (kk + 1) = true)); rw [was_succ hqk]; simp [c76, c85, c94, c106]), rfl, trivial⟩, by omega, h.to⟩, by show ns - (kk + 1) < ns - kk; omega⟩
                        · skip
                          refine WT.pure 19 rfl (by kernel_rfl) (fun w' => (run_pickT rfl)) rfl rfl ?_
                          refine WT.pure 20 rfl (by kernel_rfl) (fun w' => run_move) rfl rfl ?_
                          refine WT.skip 21 rfl (by kernel_rfl) rfl rfl ?_
                          refine WT.skip 22 rfl (by kernel_rfl) rfl rfl ?_
                          refine WT.skip 23 rfl (by kernel_rfl) rfl rfl ?_
                          refine WT.skip 24 rfl (by kernel_rfl) rfl rfl ?_
                          refine WT.skip 25 rfl (by kernel_rfl) rfl rfl ?_
                          refine WT.skip 26 rfl (by kernel_rfl) rfl rfl ?_
                          refine WT.skip 27 rfl (by kernel_rfl) rfl rfl ?_
                          refine WT.skip 28 rfl (by kernel_rfl) rfl rfl ?_
                          refine WT.skip 29 rfl (by kernel_rfl) rfl rfl ?_
                          refine WT.skip 30 rfl (by kernel_rfl) rfl rfl ?_
                          refine WT.pure 31 rfl (by kernel_rfl) (fun w' => (run_pickF rfl)) rfl rfl ?_
                          refine WT.pure 32 rfl (by kernel_rfl) (fun w' => (run_pickF rfl)) rfl rfl ?_
                          refine WT.pure 33 rfl (by kernel_rfl) (fun w' => run_assign) rfl rfl ?_
                          refine WT.done (by kernel_rfl) ?_
                          refine W.region ?_
                          refine WL.val run_move rfl rfl ?_
                          refine WL.val (run_add rfl rfl (by omega) (by omega)) rfl rfl ?_
                          refine WL.val run_assign rfl rfl ?_
                          refine WL.nil ?_
                          -- round, path TLTFTTLTFTF
                          exact ⟨kk + 1, ⟨_, mkE_of ⟨rfl, rfl, rfl, rfl, rfl, (by show Value.bool false = Value.bool (decide (was S _ (kk + 1) = true)); rw [was_succ hqk]; simp [c76, c85, c94]), rfl, trivial⟩, by omega, h.to⟩, by show ns - (kk + 1) < ns - kk; omega⟩
                      · skip
                        refine WT.pure 10 rfl (by kernel_rfl) (fun w' => run_move) rfl rfl ?_
                        refine WT.skip 11 rfl (by kernel_rfl) rfl rfl ?_
                        refine WT.skip 12 rfl (by kernel_rfl) rfl rfl ?_
                        refine WT.skip 13 rfl (by kernel_rfl) rfl rfl ?_
                        refine WT.skip 14 rfl (by kernel_rfl) rfl rfl ?_
                        refine WT.skip 15 rfl (by kernel_rfl) rfl rfl ?_
                        refine WT.skip 16 rfl (by kernel_rfl) rfl rfl ?_
                        refine WT.skip 17 rfl (by kernel_rfl) rfl rfl ?_
                        refine WT.skip 18 rfl (by kernel_rfl) rfl rfl ?_
                        refine WT.pure 19 rfl (by kernel_rfl) (fun w' => (run_pickF rfl)) rfl rfl ?_
                        refine WT.pure 20 rfl (by kernel_rfl) (fun w' => run_move) rfl rfl ?_
                        refine WT.skip 21 rfl (by kernel_rfl) rfl rfl ?_
                        refine WT.skip 22 rfl (by kernel_rfl) rfl rfl ?_
                        refine WT.skip 23 rfl (by kernel_rfl) rfl rfl ?_
                        refine WT.skip 24 rfl (by kernel_rfl) rfl rfl ?_
                        refine WT.skip 25 rfl (by kernel_rfl) rfl rfl ?_
                        refine WT.skip 26 rfl (by kernel_rfl) rfl rfl ?_
                        refine WT.skip 27 rfl (by kernel_rfl) rfl rfl ?_
                        refine WT.skip 28 rfl (by kernel_rfl) rfl rfl ?_
                        refine WT.skip 29 rfl (by kernel_rfl) rfl rfl ?_
                        refine WT.skip 30 rfl (by kernel_rfl) rfl rfl ?_
                        refine WT.pure 31 rfl (by kernel_rfl) (fun w' => (run_pickF rfl)) rfl rfl ?_
                        refine WT.pure 32 rfl (by kernel_rfl) (fun w' => (run_pickF rfl)) rfl rfl ?_
                        refine WT.pure 33 rfl (by kernel_rfl) (fun w' => run_assign) rfl rfl ?_
                        refine WT.done (by kernel_rfl) ?_
                        refine W.region ?_
                        refine WL.val run_move rfl rfl ?_
                        refine WL.val (run_add rfl rfl (by omega) (by omega)) rfl rfl ?_
                        refine WL.val run_assign rfl rfl ?_
                        refine WL.nil ?_
                        -- round, path TLTFTTLTFF
                        exact ⟨kk + 1, ⟨_, mkE_of ⟨rfl, rfl, rfl, rfl, rfl, (by show Value.bool false = Value.bool (decide (was S _ (kk + 1) = true)); rw [was_succ hqk]; simp [c76, c85]), rfl, trivial⟩, by omega, h.to⟩, by show ns - (kk + 1) < ns - kk; omega⟩
                  · skip
                    refine W.exit ?_
                    -- to the cut, path TLTFTTLF
                    exact ⟨_, mkE_of ⟨rfl, rfl, rfl, rfl, (by show Value.bool (decide (was S _ kk = true)) = Value.bool true; rw [show kk = S.length by omega, K.has hat]; rfl), trivial⟩, h.to⟩
              · rintro env w ⟨j, rfl, h⟩
                refine W.seq ?_
                refine W.region ?_
                refine WL.val run_move rfl rfl ?_
                refine WL.val (run_not rfl) rfl rfl ?_
                refine WL.nil ?_
                refine W.condF rfl ?_
                refine W.skip ?_
                refine W.region ?_
                refine WL.val run_move rfl rfl ?_
                refine WL.val (run_add rfl rfl (by omega) (by omega)) rfl rfl ?_
                refine WL.val run_assign rfl rfl ?_
                refine WL.nil ?_
                -- round, path TLTFTT
                exact ⟨k + 1, ⟨_, pool, S, ns, as_, cs, mkE_of ⟨rfl, rfl, rfl, rfl, trivial⟩, by omega, hns, hsub, by omega, (by rw [← runA_succ hq]; exact K.other (show ¬ ao = 1 from c25)), h.to⟩, by show acts.length - (k + 1) < acts.length - k; omega⟩
            · skip
              refine WL.val run_move rfl rfl ?_
              refine WL.val (run_extract rfl rfl) rfl rfl ?_
              refine WL.val (run_extract rfl rfl) rfl rfl ?_
              refine WL.eff (eff_storeN (vs := [.int .i64 _, .int .i64 _, .slice _ _ _]) h Try.sizeOf33 rfl rfl rfl rfl rfl (fun k _ _ => free0 k)) rfl rfl ?_
              rintro _ w h
              try simp only [splice, List.take_zero, List.take_succ_cons, List.take_nil, List.drop_succ_cons, List.drop_zero, List.drop_nil, List.nil_append, List.cons_append, List.append_nil, List.length_cons, List.length_nil, Nat.zero_add, Nat.reduceAdd] at h
              refine WL.val run_assign rfl rfl ?_
              refine WL.nil ?_
              refine W.seq ?_
              refine W.seq ?_
              refine W.region ?_
              refine WL.val run_move rfl rfl ?_
              refine WL.val (run_not rfl) rfl rfl ?_
              refine WL.nil ?_
              refine W.condT rfl ?_
              refine W.exit ?_
              refine W.region ?_
              refine WL.val run_move rfl rfl ?_
              refine WL.val (run_add rfl rfl (by omega) (by omega)) rfl rfl ?_
              refine WL.val run_assign rfl rfl ?_
              refine WL.nil ?_
              -- round, path TLTFTF
              exact ⟨k + 1, ⟨_, pool, S, ns, as_, cs, mkE_of ⟨rfl, rfl, rfl, rfl, trivial⟩, by omega, hns, hsub, by omega, (by rw [← runA_succ hq]; exact K.other (show ¬ ao = 1 from c25)), h.to⟩, by show acts.length - (k + 1) < acts.length - k; omega⟩
          · skip
            refine WL.val run_assign rfl rfl ?_
            refine WL.nil ?_
            refine W.condF rfl ?_
            refine W.region ?_
            refine WL.dec (run_eql rfl rfl) rfl rfl (fun c50 => ?_) (fun c50 => ?_)
            · skip
              refine WL.val run_assign rfl rfl ?_
              refine WL.nil ?_
              refine W.condT rfl ?_
              refine W.seq ?_
              refine W.region ?_
              refine WL.eff (eff_alloc h Try.zeroValue33 rfl) rfl rfl ?_
              rintro _ w ⟨b8, rfl, h⟩
              refine WL.nil ?_
              refine W.seq ?_
              refine W.region ?_
              refine WL.val run_assign rfl rfl ?_
              refine WL.nil ?_
              refine W.seq ?_
              refine W.seq ?_
              refine W.region ?_
              refine WL.val (run_fieldAddr 0 Try.underlying44 rfl Try.sizeOf3 rfl rfl) rfl rfl ?_
              refine WL.val (run_load1 Try.isAgg3 rfl (h.cellB rfl)) rfl rfl ?_
              refine WL.val (run_eqlT rfl rfl (c50)) rfl rfl ?_
              refine WL.nil ?_
              refine W.condT rfl ?_
              refine W.region ?_
              refine WL.val run_move rfl rfl ?_
              refine WL.val (run_fieldAddr 2 Try.underlying44 rfl Try.sizeOf3 rfl rfl) rfl rfl ?_
              refine WL.val (run_load1 Try.isAgg3 rfl (h.cellB rfl)) rfl rfl ?_
              refine WL.eff (eff_call Try.call15 (take_ok ((h.fetch (Pool pool)).fetch (NetP 58 b (runA 4 acts k) pool)))) rfl rfl ?_
              rintro _ w hR
              have hact : act (runA 4 acts k) ⟨ao, af, at_, an, ax, ac, abs⟩ = out (runA 4 acts k) (takeI (runA 4 acts k) at_) := by unfold act; rw [if_neg c25, if_neg c49, if_neg (show ¬ ao = 3 by omega), if_neg (show ¬ ao = 4 by omega), if_pos c50]
              rw [← hact, runA_succ hq] at hR
              rcases hR.elim with ⟨⟨pf, pt, pbs⟩, pa, pc, hat, rfl, h⟩ | ⟨hat, rfl, h⟩
              · skip
                refine WL.val run_move rfl rfl ?_
                refine WL.val (run_extract rfl rfl) rfl rfl ?_
                refine WL.val (run_extract rfl rfl) rfl rfl ?_
                refine WL.eff (eff_storeN (vs := [.int .i64 _, .int .i64 _, .slice _ _ _]) h Try.sizeOf33 rfl rfl rfl rfl rfl (fun k _ _ => free0 k)) rfl rfl ?_
                rintro _ w h
                try simp only [splice, List.take_zero, List.take_succ_cons, List.take_nil, List.drop_succ_cons, List.drop_zero, List.drop_nil, List.nil_append, List.cons_append, List.append_nil, List.length_cons, List.length_nil, Nat.zero_add, Nat.reduceAdd] at h
                refine WL.val run_assign rfl rfl ?_
                refine WL.nil ?_
                refine W.seq ?_
                refine W.seq ?_
                refine W.region ?_
                refine WL.val run_move rfl rfl ?_
                refine WL.val (run_not rfl) rfl rfl ?_
                refine WL.nil ?_
                refine W.condF rfl ?_
                refine W.skip ?_
                refine W.seq ?_
                refine W.region ?_
                refine WL.val run_assign rfl rfl ?_
                refine WL.nil ?_
                refine W.cut (fun env w => ∃ j, env = mkE j [(0, .slice (some ⟨bq, oq, none⟩) acts.length cl), (3, .pointer (some ⟨b, 0, none⟩)), (5, .slice as_ ns cs), (6, .int .i64 (k : Int)), (10, .bool true)] ∧ On W0 (NetP 58 b (runA 4 acts (k + 1)) pool :: Pool pool :: Own 5 (.slice as_ ns cs) ns (S.flatMap A.cells) :: F) w) ?_ ?_
                · skip
                  refine W.seq ?_
                  refine W.region ?_
                  refine WL.val run_assign rfl rfl ?_
                  refine WL.nil ?_
                  refine W.block ?_
                  refine W.loop (fun (kk : Nat) env w => ∃ j, env = mkE j [(0, .slice (some ⟨bq, oq, none⟩) acts.length cl), (3, .pointer (some ⟨b, 0, none⟩)), (5, .slice as_ ns cs), (6, .int .i64 (k : Int)), (8, .pointer (some ⟨b8, 0, none⟩)), (10, .bool (decide (was S ⟨pf, pt, pbs⟩ kk = true))), (11, .int .i64 (kk : Int))] ∧ kk ≤ ns ∧ On W0 (blk b8 [.int .i64 pf, .int .i64 pt, .slice pa pbs.length pc] 33 :: OwnB (.slice pa pbs.length pc) pbs :: NetP 58 b (runA 4 acts (k + 1)) pool :: Pool pool :: Own 5 (.slice as_ ns cs) ns (S.flatMap A.cells) :: F) w) (fun kk => ns - kk) (0) ?_ ?_
                  · exact ⟨_, mkE_of ⟨rfl, rfl, rfl, rfl, rfl, (by show Value.bool false = Value.bool (decide (was S _ 0 = true)); simp [was]), rfl, trivial⟩, Nat.zero_le _, h.to⟩
                  · rintro kk env w ⟨j, rfl, hkk, h⟩
                    refine W.seq ?_
                    refine W.seq ?_
                    refine W.region ?_
                    refine WL.val run_move rfl rfl ?_
                    refine WL.val run_move rfl rfl ?_
                    refine WL.val (run_lenSlice Try.underlying37 rfl) rfl rfl ?_
                    refine WL.val (run_lss rfl rfl) rfl rfl ?_
                    refine WL.nil ?_
                    refine W.condIf rfl (fun c50 => ?_) (fun c50 => ?_)
                    · skip
                      refine W.skip ?_
                      refine W.seq ?_
                      have hkn : kk < S.length := by omega
                      obtain ⟨b5, o5, ha5⟩ := Own.addr h.p4 (by omega)
                      subst ha5
                      obtain ⟨⟨bo, bf, bt, bn, bx, bc, bbs⟩, hqk⟩ : ∃ a, S[kk]? = some a := ⟨S[kk], by simp⟩
                      have hrS := drop_flatMap A.cells 5 A.cells_length S _ _ hqk
                      have hB2 := CB _ (hsub _ (List.mem_of_getElem? hqk))
                      refine W.block ?_
                      refine W.draw Try.follows h (fun w h => ?_)
                      refine WT.dec 0 rfl (by kernel_rfl) (fun w' => run_move) rfl rfl (fun c76 => ?_) (fun c76 => ?_)
                      · skip
                        refine WT.pure 1 rfl (by kernel_rfl) (fun w' => run_move) rfl rfl ?_
                        refine WT.skip 2 rfl (by kernel_rfl) rfl rfl ?_
                        refine WT.skip 3 rfl (by kernel_rfl) rfl rfl ?_
                        refine WT.skip 4 rfl (by kernel_rfl) rfl rfl ?_
                        refine WT.skip 5 rfl (by kernel_rfl) rfl rfl ?_
                        refine WT.skip 6 rfl (by kernel_rfl) rfl rfl ?_
                        refine WT.skip 7 rfl (by kernel_rfl) rfl rfl ?_
                        refine WT.skip 8 rfl (by kernel_rfl) rfl rfl ?_
                        refine WT.skip 9 rfl (by kernel_rfl) rfl rfl ?_
                        refine WT.skip 10 rfl (by kernel_rfl) rfl rfl ?_
                        refine WT.skip 11 rfl (by kernel_rfl) rfl rfl ?_
                        refine WT.skip 12 rfl (by kernel_rfl) rfl rfl ?_
                        refine WT.skip 13 rfl (by kernel_rfl) rfl rfl ?_
                        refine WT.skip 14 rfl (by kernel_rfl) rfl rfl ?_
                        refine WT.skip 15 rfl (by kernel_rfl) rfl rfl ?_
                        refine WT.skip 16 rfl (by kernel_rfl) rfl rfl ?_
                        refine WT.skip 17 rfl (by kernel_rfl) rfl rfl ?_
                        refine WT.skip 18 rfl (by kernel_rfl) rfl rfl ?_
                        refine WT.skip 19 rfl (by kernel_rfl) rfl rfl ?_
                        refine WT.skip 20 rfl (by kernel_rfl) rfl rfl ?_
                        refine WT.skip 21 rfl (by kernel_rfl) rfl rfl ?_
                        refine WT.skip 22 rfl (by kernel_rfl) rfl rfl ?_
                        refine WT.skip 23 rfl (by kernel_rfl) rfl rfl ?_
                        refine WT.skip 24 rfl (by kernel_rfl) rfl rfl ?_
                        refine WT.skip 25 rfl (by kernel_rfl) rfl rfl ?_
                        refine WT.skip 26 rfl (by kernel_rfl) rfl rfl ?_
                        refine WT.skip 27 rfl (by kernel_rfl) rfl rfl ?_
                        refine WT.skip 28 rfl (by kernel_rfl) rfl rfl ?_
                        refine WT.skip 29 rfl (by kernel_rfl) rfl rfl ?_
                        refine WT.skip 30 rfl (by kernel_rfl) rfl rfl ?_
                        refine WT.skip 31 rfl (by kernel_rfl) rfl rfl ?_
                        refine WT.pure 32 rfl (by kernel_rfl) (fun w' => (run_pickT rfl)) rfl rfl ?_
                        refine WT.pure 33 rfl (by kernel_rfl) (fun w' => run_assign) rfl rfl ?_
                        refine WT.done (by kernel_rfl) ?_
                        refine W.region ?_
                        refine WL.val run_move rfl rfl ?_
                        refine WL.val (run_add rfl rfl (by omega) (by omega)) rfl rfl ?_
                        refine WL.val run_assign rfl rfl ?_
                        refine WL.nil ?_
                        -- round, path TLTFFTTLTT
                        exact ⟨kk + 1, ⟨_, mkE_of ⟨rfl, rfl, rfl, rfl, rfl, (by show Value.bool true = Value.bool (decide (was S _ (kk + 1) = true)); rw [was_succ hqk]; simp [c76]), rfl, trivial⟩, by omega, h.to⟩, by show ns - (kk + 1) < ns - kk; omega⟩
                      · skip
                        refine WT.pure 1 rfl (by kernel_rfl) (fun w' => run_move) rfl rfl ?_
                        refine WT.pure 2 rfl (by kernel_rfl) (fun w' => run_move) rfl rfl ?_
                        refine WT.pure 3 rfl (by kernel_rfl) (fun w' => run_move) rfl rfl ?_
                        refine WT.pure 4 rfl (by kernel_rfl) (fun w' => (run_indexAddr Try.underlying37 Try.sizeOf44 rfl rfl (by omega) (by omega))) rfl rfl ?_
                        refine WT.pure 5 rfl (by kernel_rfl) (fun w' => (run_fieldAddr 1 Try.underlying44 rfl Try.sizeOf3 rfl rfl)) rfl rfl ?_
                        refine WT.load1 6 rfl (by kernel_rfl) Try.isAgg3 rfl ((h.cellsO (v := .slice (some ⟨b5, o5, none⟩) ns cs)).elem (i := kk) (vs := [.int .i64 bo, .int .i64 bf, .int .i64 bt, .int .i64 bn, .slice bx bbs.length bc]) (by omega) hrS 1 _ rfl) rfl rfl ?_
                        refine WT.pure 7 rfl (by kernel_rfl) (fun w' => (run_fieldAddr 0 Try.underlying33 rfl Try.sizeOf3 rfl rfl)) rfl rfl ?_
                        refine WT.load1 8 rfl (by kernel_rfl) Try.isAgg3 rfl (h.cellB rfl) rfl rfl ?_
                        refine WT.dec 9 rfl (by kernel_rfl) (fun w' => (run_eql rfl rfl)) rfl rfl (fun c85 => ?_) (fun c85 => ?_)
                        · skip
                          refine WT.pure 10 rfl (by kernel_rfl) (fun w' => run_move) rfl rfl ?_
                          refine WT.pure 11 rfl (by kernel_rfl) (fun w' => run_move) rfl rfl ?_
                          refine WT.pure 12 rfl (by kernel_rfl) (fun w' => run_move) rfl rfl ?_
                          refine WT.pure 13 rfl (by kernel_rfl) (fun w' => (run_indexAddr Try.underlying37 Try.sizeOf44 rfl rfl (by omega) (by omega))) rfl rfl ?_
                          refine WT.pure 14 rfl (by kernel_rfl) (fun w' => (run_fieldAddr 2 Try.underlying44 rfl Try.sizeOf3 rfl rfl)) rfl rfl ?_
                          refine WT.load1 15 rfl (by kernel_rfl) Try.isAgg3 rfl ((h.cellsO (v := .slice (some ⟨b5, o5, none⟩) ns cs)).elem (i := kk) (vs := [.int .i64 bo, .int .i64 bf, .int .i64 bt, .int .i64 bn, .slice bx bbs.length bc]) (by omega) hrS 2 _ rfl) rfl rfl ?_
                          refine WT.pure 16 rfl (by kernel_rfl) (fun w' => (run_fieldAddr 1 Try.underlying33 rfl Try.sizeOf3 rfl rfl)) rfl rfl ?_
                          refine WT.load1 17 rfl (by kernel_rfl) Try.isAgg3 rfl (h.cellB rfl) rfl rfl ?_
                          refine WT.dec 18 rfl (by kernel_rfl) (fun w' => (run_eql rfl rfl)) rfl rfl (fun c94 => ?_) (fun c94 => ?_)
                          · skip
                            refine WT.pure 19 rfl (by kernel_rfl) (fun w' => (run_pickT rfl)) rfl rfl ?_
                            refine WT.pure 20 rfl (by kernel_rfl) (fun w' => run_move) rfl rfl ?_
                            refine WT.pure 21 rfl (by kernel_rfl) (fun w' => run_move) rfl rfl ?_
                            refine WT.pure 22 rfl (by kernel_rfl) (fun w' => run_move) rfl rfl ?_
                            refine WT.pure 23 rfl (by kernel_rfl) (fun w' => (run_indexAddr Try.underlying37 Try.sizeOf44 rfl rfl (by omega) (by omega))) rfl rfl ?_
                            refine WT.pure 24 rfl (by kernel_rfl) (fun w' => (run_fieldAddr 4 Try.underlying44 rfl Try.sizeOf30 rfl rfl)) rfl rfl ?_
                            refine WT.load1 25 rfl (by kernel_rfl) Try.isAgg30 rfl ((h.cellsO (v := .slice (some ⟨b5, o5, none⟩) ns cs)).elem (i := kk) (vs := [.int .i64 bo, .int .i64 bf, .int .i64 bt, .int .i64 bn, .slice bx bbs.length bc]) (by omega) hrS 4 _ rfl) rfl rfl ?_
                            refine WT.take 26 (fun w => Bytes (.slice bx bbs.length bc) (bbs) (hp w)) rfl (by kernel_rfl) rfl rfl (h.reads (Gives.to hB2)) (fun w' hC => run_bytesStr Try.underlying30 Try.underlying5 Try.underlying9 rfl hC) ?_
                            refine WT.pure 27 rfl (by kernel_rfl) (fun w' => (run_fieldAddr 2 Try.underlying33 rfl Try.sizeOf30 rfl rfl)) rfl rfl ?_
                            refine WT.load1 28 rfl (by kernel_rfl) Try.isAgg30 rfl (h.cellB rfl) rfl rfl ?_
                            refine WT.take 29 (fun w => Bytes (.slice pa pbs.length pc) (pbs) (hp w)) rfl (by kernel_rfl) rfl rfl (h.cellsO (v := .slice pa pbs.length pc)) (fun w' hC => run_bytesStr Try.underlying30 Try.underlying5 Try.underlying9 rfl hC) ?_
                            refine WT.dec 30 rfl (by kernel_rfl) (fun w' => (run_eqlStr rfl rfl)) rfl rfl (fun c106 => ?_) (fun c106 => ?_)
                            · skip
                              refine WT.pure 31 rfl (by kernel_rfl) (fun w' => (run_pickT rfl)) rfl rfl ?_
                              refine WT.pure 32 rfl (by kernel_rfl) (fun w' => (run_pickF rfl)) rfl rfl ?_
                              refine WT.pure 33 rfl (by kernel_rfl) (fun w' => run_assign) rfl rfl ?_
                              refine WT.done (by kernel_rfl) ?_
                              refine W.region ?_
                              refine WL.val run_move rfl rfl ?_
                              refine WL.val (run_add rfl rfl (by omega) (by omega)) rfl rfl ?_
                              refine WL.val run_assign rfl rfl ?_
                              refine WL.nil ?_
                              -- round, path TLTFFTTLTFTTT
                              simp [Go.ByteArray.toList_eq] at c106
                              exact ⟨kk + 1, ⟨_, mkE_of ⟨rfl, rfl, rfl, rfl, rfl, (by show Value.bool true = Value.bool (decide (was S _ (kk + 1) = true)); rw [was_succ hqk]; simp [c76, c85, c94, c106]), rfl, trivial⟩, by omega, h.to⟩, by show ns - (kk + 1) < ns - kk; omega⟩
                            · skip
                              refine WT.pure 31 rfl (by kernel_rfl) (fun w' => (run_pickT rfl)) rfl rfl ?_
                              refine WT.pure 32 rfl (by kernel_rfl) (fun w' => (run_pickF rfl)) rfl rfl ?_
                              refine WT.pure 33 rfl (by kernel_rfl) (fun w' => run_assign) rfl rfl ?_
                              refine WT.done (by kernel_rfl) ?_
                              refine W.region ?_
                              refine WL.val run_move rfl rfl ?_
                              refine WL.val (run_add rfl rfl (by omega) (by omega)) rfl rfl ?_
                              refine WL.val run_assign rfl rfl ?_
                              refine WL.nil ?_
                              -- round, path TLTFFTTLTFTTF
                              simp [Go.ByteArray.toList_eq] at c106
                              exact ⟨kk + 1, ⟨_, mkE_of ⟨rfl, rfl, rfl, rfl, rfl, (by show Value.bool false = Value.bool (decide (was S _ (kk + 1) = true)); rw [was_succ hqk]; simp [c76, c85, c94, c106]), rfl, trivial⟩, by omega, h.to⟩, by show ns - (kk + 1) < ns - kk; omega⟩
                          · skip
                            refine WT.pure 19 rfl (by kernel_rfl) (fun w' => (run_pickT rfl)) rfl rfl ?_
                            refine WT.pure 20 rfl (by kernel_rfl) (fun w' => run_move) rfl rfl ?_
                            refine WT.skip 21 rfl (by kernel_rfl) rfl rfl ?_
                            refine WT.skip 22 rfl (by kernel_rfl) rfl rfl ?_
                            refine WT.skip 23 rfl (by kernel_rfl) rfl rfl ?_
                            refine WT.skip 24 rfl (by kernel_rfl) rfl rfl ?_
                            refine WT.skip 25 rfl (by kernel_rfl) rfl rfl ?_
                            refine WT.skip 26 rfl (by kernel_rfl) rfl rfl ?_
                            refine WT.skip 27 rfl (by kernel_rfl) rfl rfl ?_
                            refine WT.skip 28 rfl (by kernel_rfl) rfl rfl ?_
                            refine WT.skip 29 rfl (by kernel_rfl) rfl rfl ?_
                            refine WT.skip 30 rfl (by kernel_rfl) rfl rfl ?_
                            refine WT.pure 31 rfl (by kernel_rfl) (fun w' => (run_pickF rfl)) rfl rfl ?_
                            refine WT.pure 32 rfl (by kernel_rfl) (fun w' => (run_pickF rfl)) rfl rfl ?_
                            refine WT.pure 33 rfl (by kernel_rfl) (fun w' => run_assign) rfl rfl ?_
                            refine WT.done (by kernel_rfl) ?_
                            refine W.region ?_
                            refine WL.val run_move rfl rfl ?_
                            refine WL.val (run_add rfl rfl (by omega) (by omega)) rfl rfl ?_
                            refine WL.val run_assign rfl rfl ?_
                            refine WL.nil ?_
                            -- round, path TLTFFTTLTFTF
                            exact ⟨kk + 1, ⟨_, mkE_of ⟨rfl, rfl, rfl, rfl, rfl, (by show Value.bool false = Value.bool (decide (was S _ (kk + 1) = true)); rw [was_succ hqk]; simp [c76, c85, c94]), rfl, trivial⟩, by omega, h.to⟩, by show ns - (kk + 1) < ns - kk; omega⟩
                        · skip
                          refine WT.pure 10 rfl (by kernel_rfl) (fun w' => run_move) rfl rfl ?_
                          refine WT.skip 11 rfl (by kernel_rfl) rfl rfl ?_
                          refine WT.skip 12 rfl (by kernel_rfl) rfl rfl ?_
                          refine WT.skip 13 rfl (by kernel_rfl) rfl rfl ?_
                          refine WT.skip 14 rfl (by kernel_rfl) rfl rfl ?_
                          refine WT.skip 15 rfl (by kernel_rfl) rfl rfl ?_
                          refine WT.skip 16 rfl (by kernel_rfl) rfl rfl ?_
                          refine WT.skip 17 rfl (by kernel_rfl) rfl rfl ?_
                          refine WT.skip 18 rfl (by kernel_rfl) rfl rfl ?_
                          refine WT.pure 19 rfl (by kernel_rfl) (fun w' => (run_pickF rfl)) rfl rfl ?_
                          refine WT.pure 20 rfl (by kernel_rfl) (fun w' => run_move) rfl rfl ?_
                          refine WT.skip 21 rfl (by kernel_rfl) rfl rfl ?_
                          refine WT.skip 22 rfl (by kernel_rfl) rfl rfl ?_
                          refine WT.skip 23 rfl (by kernel_rfl) rfl rfl ?_
                          refine WT.skip 24 rfl (by kernel_rfl) rfl rfl ?_
                          refine WT.skip 25 rfl (by kernel_rfl) rfl rfl ?_
                          refine WT.skip 26 rfl (by kernel_rfl) rfl rfl ?_
                          refine WT.skip 27 rfl (by kernel_rfl) rfl rfl ?_
                          refine WT.skip 28 rfl (by kernel_rfl) rfl rfl ?_
                          refine WT.skip 29 rfl (by kernel_rfl) rfl rfl ?_
                          refine WT.skip 30 rfl (by kernel_rfl) rfl rfl ?_
                          refine WT.pure 31 rfl (by kernel_rfl) (fun w' => (run_pickF rfl)) rfl rfl ?_
                          refine WT.pure 32 rfl (by kernel_rfl) (fun w' => (run_pickF rfl)) rfl rfl ?_
                          refine WT.pure 33 rfl (by kernel_rfl) (fun w' => run_assign) rfl rfl ?_
                          refine WT.done (by kernel_rfl) ?_
                          refine W.region ?_
                          refine WL.val run_move rfl rfl ?_
                          refine WL.val (run_add rfl rfl (by omega) (by omega)) rfl rfl ?_
                          refine WL.val run_assign rfl rfl ?_
                          refine WL.nil ?_
                          -- round, path TLTFFTTLTFF
                          exact ⟨kk + 1, ⟨_, mkE_of ⟨rfl, rfl, rfl, rfl, rfl, (by show Value.bool false = Value.bool (decide (was S _ (kk + 1) = true)); rw [was_succ hqk]; simp [c76, c85]), rfl, trivial⟩, by omega, h.to⟩, by show ns - (kk + 1) < ns - kk; omega⟩
                    · skip
                      refine W.exit ?_
                      -- to the cut, path TLTFFTTLF
                      exact ⟨_, mkE_of ⟨rfl, rfl, rfl, rfl, (by show Value.bool (decide (was S _ kk = true)) = Value.bool true; rw [show kk = S.length by omega, K.has hat]; rfl), trivial⟩, h.to⟩
                · rintro env w ⟨j, rfl, h⟩
                  refine W.seq ?_
                  refine W.region ?_
                  refine WL.val run_move rfl rfl ?_
                  refine WL.val (run_not rfl) rfl rfl ?_
                  refine WL.nil ?_
                  refine W.condF rfl ?_
                  refine W.skip ?_
                  refine W.region ?_
                  refine WL.val run_move rfl rfl ?_
                  refine WL.val (run_add rfl rfl (by omega) (by omega)) rfl rfl ?_
                  refine WL.val run_assign rfl rfl ?_
                  refine WL.nil ?_
                  -- round, path TLTFFTT
                  exact ⟨k + 1, ⟨_, pool, S, ns, as_, cs, mkE_of ⟨rfl, rfl, rfl, rfl, trivial⟩, by omega, hns, hsub, by omega, (by rw [← runA_succ hq]; exact K.other (show ¬ ao = 1 from c25)), h.to⟩, by show acts.length - (k + 1) < acts.length - k; omega⟩
              · skip
                refine WL.val run_move rfl rfl ?_
                refine WL.val (run_extract rfl rfl) rfl rfl ?_
                refine WL.val (run_extract rfl rfl) rfl rfl ?_
                refine WL.eff (eff_storeN (vs := [.int .i64 _, .int .i64 _, .slice _ _ _]) h Try.sizeOf33 rfl rfl rfl rfl rfl (fun k _ _ => free0 k)) rfl rfl ?_
                rintro _ w h
                try simp only [splice, List.take_zero, List.take_succ_cons, List.take_nil, List.drop_succ_cons, List.drop_zero, List.drop_nil, List.nil_append, List.cons_append, List.append_nil, List.length_cons, List.length_nil, Nat.zero_add, Nat.reduceAdd] at h
                refine WL.val run_assign rfl rfl ?_
                refine WL.nil ?_
                refine W.seq ?_
                refine W.seq ?_
                refine W.region ?_
                refine WL.val run_move rfl rfl ?_
                refine WL.val (run_not rfl) rfl rfl ?_
                refine WL.nil ?_
                refine W.condT rfl ?_
                refine W.exit ?_
                refine W.region ?_
                refine WL.val run_move rfl rfl ?_
                refine WL.val (run_add rfl rfl (by omega) (by omega)) rfl rfl ?_
                refine WL.val run_assign rfl rfl ?_
                refine WL.nil ?_
                -- round, path TLTFFTF
                exact ⟨k + 1, ⟨_, pool, S, ns, as_, cs, mkE_of ⟨rfl, rfl, rfl, rfl, trivial⟩, by omega, hns, hsub, by omega, (by rw [← runA_succ hq]; exact K.other (show ¬ ao = 1 from c25)), h.to⟩, by show acts.length - (k + 1) < acts.length - k; omega⟩
            · skip
              refine WL.val run_assign rfl rfl ?_
              refine WL.nil ?_
              refine W.condF rfl ?_
              refine W.seq ?_
              refine W.region ?_
              refine WL.val (run_eql rfl rfl) rfl rfl ?_
              refine WL.val run_assign rfl rfl ?_
              refine WL.nil ?_
              refine W.condIf rfl (fun c62 => ?_) (fun c62 => ?_)
              · skip
                refine W.region ?_
                refine WL.val run_move rfl rfl ?_
                refine WL.val (run_fieldAddr 3 Try.underlying44 rfl Try.sizeOf3 rfl rfl) rfl rfl ?_
                refine WL.val (run_load1 Try.isAgg3 rfl (h.cellB rfl)) rfl rfl ?_
                refine WL.eff (eff_call Try.call21 (drop_ok ((h.fetch (Pool pool)).fetch (NetP 58 b (runA 4 acts k) pool)))) rfl rfl ?_
                rintro _ w ⟨rfl, h⟩
                have hact : act (runA 4 acts k) ⟨ao, af, at_, an, ax, ac, abs⟩ = out (runA 4 acts k) an := by unfold act; rw [if_neg c25, if_neg c49, if_pos c62]
                rw [← hact, runA_succ hq] at h
                refine WL.nil ?_
                refine W.region ?_
                refine WL.val run_move rfl rfl ?_
                refine WL.val (run_add rfl rfl (by omega) (by omega)) rfl rfl ?_
                refine WL.val run_assign rfl rfl ?_
                refine WL.nil ?_
                -- round, path TLTFFFT
                exact ⟨k + 1, ⟨_, pool, S, ns, as_, cs, mkE_of ⟨rfl, rfl, rfl, rfl, trivial⟩, by omega, hns, hsub, by omega, (by rw [← runA_succ hq]; exact K.other (show ¬ ao = 1 from c25)), h.to⟩, by show acts.length - (k + 1) < acts.length - k; omega⟩
              · skip
                refine W.seq ?_
                refine W.region ?_
                refine WL.val (run_eql rfl rfl) rfl rfl ?_
                refine WL.val run_assign rfl rfl ?_
                refine WL.nil ?_
                refine W.condIf rfl (fun c65 => ?_) (fun c65 => ?_)
                · skip
                  refine W.region ?_
                  refine WL.val run_move rfl rfl ?_
                  refine WL.val (run_fieldAddr 3 Try.underlying44 rfl Try.sizeOf3 rfl rfl) rfl rfl ?_
                  refine WL.val (run_load1 Try.isAgg3 rfl (h.cellB rfl)) rfl rfl ?_
                  refine WL.eff (eff_call Try.call14 (copy_ok ((h.fetch (Pool pool)).fetch (NetP 58 b (runA 4 acts k) pool)))) rfl rfl ?_
                  rintro _ w ⟨rfl, pool', _, h⟩
                  have hact : act (runA 4 acts k) ⟨ao, af, at_, an, ax, ac, abs⟩ = copy (runA 4 acts k) an := by unfold act; rw [if_neg c25, if_neg c49, if_neg c62, if_pos c65]
                  rw [← hact, runA_succ hq] at h
                  refine WL.nil ?_
                  refine W.region ?_
                  refine WL.val run_move rfl rfl ?_
                  refine WL.val (run_add rfl rfl (by omega) (by omega)) rfl rfl ?_
                  refine WL.val run_assign rfl rfl ?_
                  refine WL.nil ?_
                  -- round, path TLTFFFFT
                  exact ⟨k + 1, ⟨_, pool', S, ns, as_, cs, mkE_of ⟨rfl, rfl, rfl, rfl, trivial⟩, by omega, hns, hsub, by omega, (by rw [← runA_succ hq]; exact K.other (show ¬ ao = 1 from c25)), h.to⟩, by show acts.length - (k + 1) < acts.length - k; omega⟩
                · skip
                  refine W.skip ?_
                  refine W.region ?_
                  refine WL.val run_move rfl rfl ?_
                  refine WL.val (run_add rfl rfl (by omega) (by omega)) rfl rfl ?_
                  refine WL.val run_assign rfl rfl ?_
                  refine WL.nil ?_
                  -- round, path TLTFFFFF
                  have hact : act (runA 4 acts k) ⟨ao, af, at_, an, ax, ac, abs⟩ = runA 4 acts k := by unfold act; rw [if_neg c25, if_neg c49, if_neg c62, if_neg c65, if_neg c50]
                  exact ⟨k + 1, ⟨_, pool, S, ns, as_, cs, mkE_of ⟨rfl, rfl, rfl, rfl, trivial⟩, by omega, hns, hsub, by omega, (by rw [← runA_succ hq]; exact K.other (show ¬ ao = 1 from c25)), (by rw [← runA_succ hq, hact]; exact h.to)⟩, by show acts.length - (k + 1) < acts.length - k; omega⟩
      · skip
        refine W.exit ?_
        refine W.seq ?_
        obtain rfl : k = acts.length := by omega
        refine W.region ?_
        refine WL.val run_move rfl rfl ?_
        refine WL.eff (eff_call Try.call13 (sentN h)) rfl rfl ?_
        rintro _ w ⟨rfl, h⟩
        refine WL.val run_move rfl rfl ?_
        refine WL.val (run_lenSlice Try.underlying37 rfl) rfl rfl ?_
        refine WL.val (run_eqlT rfl rfl (by rw [K.2, hns])) rfl rfl ?_
        refine WL.val run_assign rfl rfl ?_
        refine WL.nil ?_
        refine W.ret ?_
        refine bodyQ.r1 (v := .bool _) Try.results7 rfl ?_
        -- path TLF
        exact ⟨rfl, h.to⟩
  · skip
    refine WL.val (run_not rfl) rfl rfl ?_
    refine WL.nil ?_
    refine W.condT rfl ?_
    refine W.seq ?_
    refine W.region ?_
    refine WL.val run_assign rfl rfl ?_
    refine WL.nil ?_
    refine W.ret ?_
    refine bodyQ.r1 (v := .bool _) Try.results7 rfl ?_
    -- path F
    exact ⟨rfl, h⟩

end Go.Proofs.Ytiejlelkmklgcaa
