/-
  Twins of the network and of its reference; the law of twins. Lines of walks printed by a program of the prover's.
-/
import Derived.Test.YtiejlelkmklgcaaNetLaw
import Derived.Test.YtiejlelkmklgcaaNetTwo
import Derived.Test.YtiejlelkmklgcaaSlBits
namespace Go.Proofs.Ytiejlelkmklgcaa
open Go Go.Sl Go.Sl.NetM
set_option linter.unusedVariables false
set_option linter.unusedSimpArgs false
set_option maxHeartbeats 4000000
variable {W0 w : World} {L F : List HProp}

theorem clone_pk {ao : Option Addr} {cap n : Nat} {xs : List Value} (h : On W0 L w) (C : Gives L (Cells 3 (.slice ao n cap) n xs)) (hn : n ≤ 4096) (h1 : ∀ u ∈ xs, u.oneCell' = true) :
    Calls Try.prog 34 #[.slice ao n cap] w (Ret fun v w' => ∃ a c, v = .slice a n c ∧ On W0 (Own 3 (.slice a n c) n xs :: L) w') := by
  refine enter Try.func34 rfl Try.ntmps34 rfl ?_
  obtain ⟨ao', cap', hv, hnc, hcm, hnone⟩ := (h.reads C).form
  have hxl := (h.reads C).1
  simp only [Value.slice.injEq] at hv
  obtain ⟨rfl, _, rfl⟩ := hv
  have hl := maxLen_eq
  refine W.seq ?_
  refine W.region ?_
  refine WL.val run_assign rfl rfl ?_
  refine WL.nil ?_
  refine W.seq ?_
  refine W.seq ?_
  refine W.region ?_
  refine WL.val run_move rfl rfl ?_
  refine WL.val (run_eqlSliceNil Try.underlying56 rfl rfl) rfl rfl ?_
  refine WL.nil ?_
  refine W.condB rfl (fun c2 => ?_) (fun c2 => ?_)
  · skip
    refine W.seq ?_
    refine W.region ?_
    refine WL.val run_assign rfl rfl ?_
    refine WL.nil ?_
    refine W.ret ?_
    refine bodyQ.r1 (v := .slice _ _ _) Try.results34 rfl ?_
    -- path T
    have h0 : cap = 0 := hnone (by simpa using c2)
    obtain rfl : n = 0 := by omega
    have hb : xs = [] := List.eq_nil_of_length_eq_zero (by omega)
    subst hb
    exact ⟨none, 0, rfl, h.ownEmpty 3 none⟩
  · skip
    refine W.skip ?_
    refine W.seq ?_
    refine W.region ?_
    refine WL.eff (eff_mkSlice (zl := []) (out := []) h Try.underlying56 Try.sizeOf33 Try.zeroValue33 (by decide) (by simp) rfl rfl (by simp) (trivial) rfl rfl (by simp [maxLen])) rfl rfl ?_
    rintro _ w ⟨b5, rfl, h⟩
    refine WL.val run_move rfl rfl ?_
    refine WL.eff (eff_app0 (bytes := 40) h rfl rfl (h.readsTo C) Try.underlying56 rfl rfl rfl rfl rfl (by omega) (by omega) h1) rfl rfl ?_
    rintro _ w ⟨a, c, rfl, h⟩
    refine WL.val run_assign rfl rfl ?_
    refine WL.nil ?_
    refine W.ret ?_
    refine bodyQ.r1 (v := .slice _ _ _) Try.results34 rfl ?_
    -- path F
    exact ⟨_, _, rfl, h⟩

theorem twin_ok {b : Nat} {m : St} {pool : List (Value × List UInt8)} (h : On W0 (NetP 58 b m pool :: L) w) (hn : m.l.length ≤ 4096) :
    Calls Try.prog 23 #[.pointer (some ⟨b, 0, none⟩)] w (Ret fun v w' => ∃ b', v = .pointer (some ⟨b', 0, none⟩) ∧ On W0 (NetP 58 b' m pool :: NetP 58 b m pool :: L) w') := by
  refine enter Try.func23 rfl Try.ntmps23 rfl ?_
  obtain ⟨qs, a, c, e1, e2, e3, e4, h⟩ := openN h
  have hlen : qs.length = m.l.length := by rw [← e1]; simp
  refine W.seq ?_
  refine W.region ?_
  refine WL.val run_assign rfl rfl ?_
  refine WL.nil ?_
  refine W.seq ?_
  refine W.region ?_
  refine WL.val run_move rfl rfl ?_
  refine WL.val (run_nilCheck rfl) rfl rfl ?_
  refine WL.val (run_loadB (vs := [.int .i64 _, .slice _ _ _, .int .i64 _]) h Try.isAgg58 Try.sizeOf58 rfl rfl rfl) rfl rfl ?_
  refine WL.eff (eff_alloc h Try.zeroValue58 rfl) rfl rfl ?_
  rintro _ w ⟨b3, rfl, h⟩
  refine WL.eff (eff_storeN (vs := [.int .i64 _, .slice _ _ _, .int .i64 _]) h Try.sizeOf58 rfl rfl rfl rfl rfl (fun k _ _ => free0 k)) rfl rfl ?_
  rintro _ w h
  try simp only [splice, List.take_zero, List.take_succ_cons, List.take_nil, List.drop_succ_cons, List.drop_zero, List.drop_nil, List.nil_append, List.cons_append, List.append_nil, List.length_cons, List.length_nil, Nat.zero_add, Nat.reduceAdd] at h
  refine WL.nil ?_
  refine W.seq ?_
  refine W.region ?_
  refine WL.val run_move rfl rfl ?_
  refine WL.val (run_nilCheck rfl) rfl rfl ?_
  refine WL.val (run_fieldAddr 1 Try.underlying58 rfl Try.sizeOf56 rfl rfl) rfl rfl ?_
  refine WL.val (run_load1 Try.isAgg56 rfl (h.cellB rfl)) rfl rfl ?_
  refine WL.eff (eff_call Try.call34 (clone_pk h (Gives.ownO (v := .slice a qs.length c)) (by omega) (oneQ e3))) rfl rfl ?_
  rintro _ w ⟨a', c', rfl, h⟩
  refine WL.val (run_fieldAddr 1 Try.underlying58 rfl Try.sizeOf56 rfl rfl) rfl rfl ?_
  refine WL.eff (eff_store (v := .slice _ _ _) h Try.sizeOf56 rfl rfl rfl rfl rfl) rfl rfl ?_
  rintro _ w h
  try simp only [Nat.zero_add, Nat.add_zero, List.set_cons_zero, List.set_cons_succ] at h
  refine WL.nil ?_
  refine W.seq ?_
  refine W.region ?_
  refine WL.val run_assign rfl rfl ?_
  refine WL.nil ?_
  refine W.ret ?_
  refine bodyQ.r1 (v := .pointer _) Try.results23 rfl ?_
  -- path 
  have h2 : On W0 (blk b3 [.int .i64 m.H, .slice a' qs.length c', .int .i64 m.s] 58 :: Own 3 (.slice a' qs.length c') qs.length (qs.flatMap Q.cells) :: blk b [.int .i64 m.H, .slice a qs.length c, .int .i64 m.s] 58 :: Own 3 (.slice a qs.length c) qs.length (qs.flatMap Q.cells) :: L) w := h.to
  have h3 := closeN e1 e2 e3 e4 h2
  exact ⟨_, rfl, (closeN e1 e2 e3 e4 h3.q2).p1⟩

theorem rtwin_ok {b : Nat} {m : St} (h : On W0 (RefP 47 b m :: L) w) :
    Calls Try.prog 24 #[.pointer (some ⟨b, 0, none⟩)] w (Ret fun v w' => ∃ b', v = .pointer (some ⟨b', 0, none⟩) ∧ On W0 (RefP 47 b' m :: RefP 47 b m :: L) w') := by
  refine enter Try.func24 rfl Try.ntmps24 rfl ?_
  obtain ⟨a, c, hln, h⟩ := openR h
  have hl := maxLen_eq
  refine W.seq ?_
  refine W.region ?_
  refine WL.val run_assign rfl rfl ?_
  refine WL.nil ?_
  refine W.seq ?_
  refine W.draw Try.follows h (fun w h => ?_)
  refine WT.pure 0 rfl (by kernel_rfl) (fun w' => run_move) rfl rfl ?_
  refine WT.pure 1 rfl (by kernel_rfl) (fun w' => (run_nilCheck rfl)) rfl rfl ?_
  refine WT.pure 2 rfl (by kernel_rfl) (fun w' => (run_fieldAddr 0 Try.underlying47 rfl Try.sizeOf3 rfl rfl)) rfl rfl ?_
  refine WT.load1 3 rfl (by kernel_rfl) Try.isAgg3 rfl (h.cellB rfl) rfl rfl ?_
  refine WT.pure 5 rfl (by kernel_rfl) (fun w' => run_move) rfl rfl ?_
  refine WT.pure 6 rfl (by kernel_rfl) (fun w' => (run_nilCheck rfl)) rfl rfl ?_
  refine WT.pure 7 rfl (by kernel_rfl) (fun w' => (run_fieldAddr 1 Try.underlying47 rfl Try.sizeOf45 rfl rfl)) rfl rfl ?_
  refine WT.load1 8 rfl (by kernel_rfl) Try.isAgg45 rfl (h.cellB rfl) rfl rfl ?_
  refine WT.pure 10 rfl (by kernel_rfl) (fun w' => run_move) rfl rfl ?_
  refine WT.pure 11 rfl (by kernel_rfl) (fun w' => (run_nilCheck rfl)) rfl rfl ?_
  refine WT.pure 12 rfl (by kernel_rfl) (fun w' => (run_fieldAddr 2 Try.underlying47 rfl Try.sizeOf3 rfl rfl)) rfl rfl ?_
  refine WT.load1 13 rfl (by kernel_rfl) Try.isAgg3 rfl (h.cellB rfl) rfl rfl ?_
  refine WT.eff 4 [true, true, true] rfl (by kernel_rfl) (by kernel_rfl) (eff_mkSlice (zl := []) (out := []) h Try.underlying45 Try.sizeOf50 Try.zeroValue50 (by decide) (by simp) rfl rfl (by simp) (trivial) rfl rfl (by simp [maxLen])) rfl rfl ?_
  rintro _ w ⟨b7, rfl, h⟩
  refine ⟨⟨h.cellB rfl, h.cellB rfl, h.cellB rfl, trivial⟩, ?_⟩
  refine WT.eff 9 [true, false, true] rfl (by kernel_rfl) (by kernel_rfl) (eff_app0 (bytes := 32) h rfl rfl (h.cellsO (v := .slice a m.l.length c)) Try.underlying45 rfl rfl rfl rfl rfl (by omega) (by omega) oneR) rfl rfl ?_
  rintro _ w ⟨a', c', rfl, h⟩
  refine ⟨⟨h.cellB rfl, h.cellB rfl, trivial⟩, ?_⟩
  refine WT.pure 14 rfl (by kernel_rfl) (fun w' => (run_buildS (pl := [(0, 1), (1, 1), (2, 1)]) (out := [.int .i64 _, .slice _ _ _, .int .i64 _]) Try.underlying47 Try.zeroValue47 (fun w => by kernel_rfl) rfl (⟨⟨_, _, rfl, rfl, by decide⟩, ⟨⟨_, _, rfl, rfl, by decide⟩, ⟨⟨_, _, rfl, rfl, by decide⟩, trivial⟩⟩⟩) rfl)) rfl rfl ?_
  refine WT.eff 15 [false, false] rfl (by kernel_rfl) (by kernel_rfl) (eff_box (v := .agg _) (l := [.int .i64 _, .slice _ _ _, .int .i64 _]) h rfl rfl) rfl rfl ?_
  rintro _ w ⟨b18, rfl, h⟩
  refine ⟨trivial, ?_⟩
  refine WT.pure 16 rfl (by kernel_rfl) (fun w' => run_assign) rfl rfl ?_
  refine WT.done (by kernel_rfl) ?_
  refine W.ret ?_
  refine bodyQ.r1 (v := .pointer _) Try.results24 rfl ?_
  -- path 
  have h2 : On W0 (blk b18 [.int .i64 m.H, .slice a' m.l.length c', .int .i64 m.s] 47 :: Own 3 (.slice a' m.l.length c') m.l.length (m.l.flatMap rk) :: blk b [.int .i64 m.H, .slice a m.l.length c, .int .i64 m.s] 47 :: Own 3 (.slice a m.l.length c) m.l.length (m.l.flatMap rk) :: L) w := h.to
  have h3 := closeR hln h2
  exact ⟨_, rfl, (closeR hln h3.q2).p1⟩

theorem twins_ok {al0 al1 al2 : Option Addr} {cl0 cl1 cl2 : Nat} {acts0 acts1 acts2 : List A} (h : On W0 F w) (C0 : Gives F (Cells 5 (.slice al0 acts0.length cl0) acts0.length (acts0.flatMap A.cells))) (CB0 : ∀ a ∈ acts0, Gives F (Bytes (.slice a.ax a.bs.length a.ac) a.bs)) (C1 : Gives F (Cells 5 (.slice al1 acts1.length cl1) acts1.length (acts1.flatMap A.cells))) (CB1 : ∀ a ∈ acts1, Gives F (Bytes (.slice a.ax a.bs.length a.ac) a.bs)) (C2 : Gives F (Cells 5 (.slice al2 acts2.length cl2) acts2.length (acts2.flatMap A.cells))) (CB2 : ∀ a ∈ acts2, Gives F (Bytes (.slice a.ax a.bs.length a.ac) a.bs)) :
    Calls Try.prog 8 #[.slice al0 acts0.length cl0, .slice al1 acts1.length cl1, .slice al2 acts2.length cl2] w (Ret fun v w' => v = .bool true ∧ On W0 F w') := by
  refine enter Try.func8 rfl Try.ntmps8 rfl ?_
  refine W.seq ?_
  refine W.region ?_
  refine WL.val run_assign rfl rfl ?_
  refine WL.nil ?_
  refine W.seq ?_
  refine W.seq ?_
  refine W.region ?_
  refine WL.eff (eff_call Try.call9 (known_ok h)) rfl rfl ?_
  rintro _ w ⟨rfl, h⟩
  refine WL.val (run_not rfl) rfl rfl ?_
  refine WL.nil ?_
  refine W.condF rfl ?_
  refine W.skip ?_
  refine W.seq ?_
  refine W.seq ?_
  refine W.region ?_
  refine WL.val run_move rfl rfl ?_
  refine WL.eff (eff_call Try.call16 (few_ok h C0)) rfl rfl ?_
  rintro _ w ⟨t0, rfl, hfew0, h⟩
  cases t0
  rotate_left
  · skip
    refine WL.val (run_not rfl) rfl rfl ?_
    refine WL.val run_move rfl rfl ?_
    refine WL.val run_move rfl rfl ?_
    refine WL.eff (eff_call Try.call16 (few_ok h C1)) rfl rfl ?_
    rintro _ w ⟨t1, rfl, hfew1, h⟩
    cases t1
    rotate_left
    · skip
      refine WL.val (run_not rfl) rfl rfl ?_
      refine WL.val (run_pickF rfl) rfl rfl ?_
      refine WL.val run_move rfl rfl ?_
      refine WL.val run_move rfl rfl ?_
      refine WL.eff (eff_call Try.call16 (few_ok h C2)) rfl rfl ?_
      rintro _ w ⟨t2, rfl, hfew2, h⟩
      cases t2
      rotate_left
      · skip
        refine WL.val (run_not rfl) rfl rfl ?_
        refine WL.val (run_pickF rfl) rfl rfl ?_
        refine WL.nil ?_
        refine W.condF rfl ?_
        refine W.skip ?_
        refine W.seq ?_
        obtain ⟨_, hlen0, _⟩ := hfew0.resolve_right (by simp)
        obtain ⟨_, hlen1, _⟩ := hfew1.resolve_right (by simp)
        obtain ⟨_, hlen2, _⟩ := hfew2.resolve_right (by simp)
        refine W.region ?_
        refine WL.eff (eff_call Try.call10 (new_ok h)) rfl rfl ?_
        rintro _ w (⟨hn, _, _⟩ | ⟨_, b, rfl, h⟩)
        · exfalso; omega
        have h := h.pool0.p1
        refine WL.val run_move rfl rfl ?_
        refine WL.val (run_extract rfl rfl) rfl rfl ?_
        refine WL.val (run_extract rfl rfl) rfl rfl ?_
        refine WL.val run_assign rfl rfl ?_
        refine WL.val run_assign rfl rfl ?_
        refine WL.nil ?_
        refine W.seq ?_
        refine W.region ?_
        refine WL.eff (eff_call Try.call17 (rnew_ok h)) rfl rfl ?_
        rintro _ w (⟨hn, _, _⟩ | ⟨_, b', rfl, h⟩)
        · exfalso; omega
        have h := h.p1
        refine WL.val run_move rfl rfl ?_
        refine WL.val (run_extract rfl rfl) rfl rfl ?_
        refine WL.val (run_extract rfl rfl) rfl rfl ?_
        refine WL.val run_assign rfl rfl ?_
        refine WL.val run_assign rfl rfl ?_
        refine WL.nil ?_
        refine W.seq ?_
        refine W.seq ?_
        refine W.region ?_
        refine WL.val run_assign rfl rfl ?_
        refine WL.nil ?_
        refine W.block ?_
        refine W.loop (fun (k : Nat) env w => ∃ j pool, env = mkE j [(0, .slice al0 acts0.length cl0), (1, .slice al1 acts1.length cl1), (2, .slice al2 acts2.length cl2), (7, .pointer (some ⟨b, 0, none⟩)), (9, .pointer (some ⟨b', 0, none⟩)), (11, .int .i64 (k : Int))] ∧ k ≤ acts0.length ∧ On W0 (NetP 58 b (runF (⟨4, [], 0⟩ : St) acts0 k) pool :: RefP 47 b' (runF (⟨4, [], 0⟩ : St) acts0 k) :: Pool pool :: F) w) (fun k => acts0.length - k) (0) ?_ ?_
        · exact ⟨_, [], mkE_of ⟨rfl, rfl, rfl, rfl, rfl, rfl, trivial⟩, Nat.zero_le _, h⟩
        · rintro k env w ⟨j, pool, rfl, hk, h⟩
          refine W.seq ?_
          refine W.seq ?_
          refine W.region ?_
          refine WL.val run_move rfl rfl ?_
          refine WL.val run_move rfl rfl ?_
          refine WL.val (run_lenSlice Try.underlying37 rfl) rfl rfl ?_
          refine WL.val (run_lss rfl rfl) rfl rfl ?_
          refine WL.nil ?_
          refine W.condIf rfl (fun c17 => ?_) (fun c17 => ?_)
          · skip
            refine W.skip ?_
            refine W.seq ?_
            obtain ⟨bq0, oq0, hal0⟩ := (h.reads (Gives.to C0)).addr (by omega)
            subst hal0
            obtain ⟨⟨ao0, af0, at0, an0, ax0, ac0, abs0⟩, hq0⟩ : ∃ a, acts0[k]? = some a := ⟨acts0[k], by simp⟩
            have hrow0 := drop_flatMap A.cells 5 A.cells_length acts0 _ _ hq0
            have hB0 := CB0 _ (List.mem_of_getElem? hq0)
            obtain ⟨hsa0, hsb0⟩ := runF_s (⟨4, [], 0⟩ : St) acts0 k
            have hsc0 : (⟨4, [], 0⟩ : St).s = 0 := rfl
            refine W.block ?_
            refine W.seq ?_
            refine W.region ?_
            refine WL.val run_move rfl rfl ?_
            refine WL.val run_move rfl rfl ?_
            refine WL.val run_move rfl rfl ?_
            refine WL.val run_move rfl rfl ?_
            refine WL.val (run_indexAddr Try.underlying37 Try.sizeOf44 rfl rfl (by omega) (by omega)) rfl rfl ?_
            refine WL.val (run_loadN Try.isAgg44 Try.sizeOf44 rfl rfl ((h.reads (Gives.to C0)).elem (i := k) (vs := [.int .i64 ao0, .int .i64 af0, .int .i64 at0, .int .i64 an0, .slice ax0 abs0.length ac0]) (by omega) hrow0)) rfl rfl ?_
            refine WL.eff (eff_call Try.call18 (do_ok (a := ⟨ao0, af0, at0, an0, ax0, ac0, abs0⟩) h hB0 (by omega) (by omega))) rfl rfl ?_
            rintro _ w ⟨rfl, pool, hsub, h⟩
            rw [runF_succ hq0] at h
            refine WL.val (run_not rfl) rfl rfl ?_
            refine WL.nil ?_
            refine W.condF rfl ?_
            refine W.skip ?_
            refine W.region ?_
            refine WL.val run_move rfl rfl ?_
            refine WL.val (run_add rfl rfl (by omega) (by omega)) rfl rfl ?_
            refine WL.val run_assign rfl rfl ?_
            refine WL.nil ?_
            -- round, path TTTLT
            exact ⟨k + 1, ⟨_, pool, mkE_of ⟨rfl, rfl, rfl, rfl, rfl, rfl, trivial⟩, by omega, h⟩, by show acts0.length - (k + 1) < acts0.length - k; omega⟩
          · skip
            refine W.exit ?_
            refine W.seq ?_
            obtain rfl : k = acts0.length := by omega
            obtain ⟨hsM0, hsM1⟩ := runF_s (⟨4, [], 0⟩ : St) acts0 acts0.length
            have hsc0 : (⟨4, [], 0⟩ : St).s = 0 := rfl
            rw [hsc0] at hsM0 hsM1
            revert h hsM0 hsM1
            generalize runF (⟨4, [], 0⟩ : St) acts0 acts0.length = M
            intro h hsM0 hsM1
            have hml : M.l.length ≤ 4096 := by obtain ⟨_, _, hx, _⟩ := openR h.p1; exact hx
            refine W.region ?_
            refine WL.val run_move rfl rfl ?_
            refine WL.eff (eff_call Try.call23 (twin_ok h hml)) rfl rfl ?_
            rintro _ w ⟨bt, rfl, h⟩
            refine WL.val run_assign rfl rfl ?_
            refine WL.nil ?_
            refine W.seq ?_
            refine W.region ?_
            refine WL.val run_move rfl rfl ?_
            refine WL.eff (eff_call Try.call24 (rtwin_ok (h.fetch (RefP 47 b' (M))))) rfl rfl ?_
            rintro _ w ⟨bu, rfl, h⟩
            refine WL.val run_assign rfl rfl ?_
            refine WL.nil ?_
            refine W.seq ?_
            refine W.seq ?_
            refine W.region ?_
            refine WL.val run_move rfl rfl ?_
            refine WL.val (run_eqlPtrNil Try.underlying23 rfl rfl) rfl rfl ?_
            refine WL.nil ?_
            refine W.condF rfl ?_
            refine W.skip ?_
            refine W.seq ?_
            refine W.seq ?_
            refine W.region ?_
            refine WL.val run_assign rfl rfl ?_
            refine WL.nil ?_
            refine W.block ?_
            refine W.loop (fun (i : Nat) env w => ∃ j pool, env = mkE j [(1, .slice al1 acts1.length cl1), (2, .slice al2 acts2.length cl2), (7, .pointer (some ⟨b, 0, none⟩)), (9, .pointer (some ⟨b', 0, none⟩)), (12, .pointer (some ⟨bt, 0, none⟩)), (13, .pointer (some ⟨bu, 0, none⟩)), (14, .int .i64 (i : Int))] ∧ (i ≤ acts1.length ∨ i ≤ acts2.length) ∧ On W0 (NetP 58 bt (runF M acts1 i) pool :: RefP 47 bu (runF M acts1 i) :: Pool pool :: NetP 58 b (runF M acts2 i) pool :: RefP 47 b' (runF M acts2 i) :: F) w) (fun i => acts1.length - i + (acts2.length - i)) (0) ?_ ?_
            · exact ⟨_, pool, mkE_of ⟨rfl, rfl, rfl, rfl, rfl, rfl, rfl, trivial⟩, .inl (Nat.zero_le _), (show On W0 (NetP 58 bt (M) pool :: RefP 47 bu (M) :: Pool pool :: NetP 58 b (M) pool :: RefP 47 b' (M) :: F) w from h.to)⟩
            · rintro i env w ⟨j, pool, rfl, hi, h⟩
              refine W.seq ?_
              refine W.seq ?_
              refine W.region ?_
              refine WL.val run_move rfl rfl ?_
              refine WL.val run_move rfl rfl ?_
              refine WL.val (run_lenSlice Try.underlying37 rfl) rfl rfl ?_
              refine WL.dec (run_lss rfl rfl) rfl rfl (fun c61 => ?_) (fun c61 => ?_)
              · skip
                refine WL.val run_move rfl rfl ?_
                refine WL.skip rfl rfl ?_
                refine WL.skip rfl rfl ?_
                refine WL.skip rfl rfl ?_
                refine WL.skip rfl rfl ?_
                refine WL.val (run_pickT rfl) rfl rfl ?_
                refine WL.nil ?_
                refine W.condT rfl ?_
                refine W.skip ?_
                refine W.seq ?_
                refine W.block ?_
                refine W.seq ?_
                refine W.region ?_
                refine WL.val run_move rfl rfl ?_
                refine WL.val run_move rfl rfl ?_
                refine WL.val (run_lenSlice Try.underlying37 rfl) rfl rfl ?_
                refine WL.val (run_lssT rfl rfl (c61)) rfl rfl ?_
                refine WL.val run_move rfl rfl ?_
                refine WL.val run_move rfl rfl ?_
                refine WL.val run_move rfl rfl ?_
                refine WL.val run_move rfl rfl ?_
                obtain ⟨bq1, oq1, hal1⟩ := (h.reads (Gives.to C1)).addr (by omega)
                subst hal1
                obtain ⟨⟨ao1, af1, at1, an1, ax1, ac1, abs1⟩, hq1⟩ : ∃ a, acts1[i]? = some a := ⟨acts1[i], by simp⟩
                have hrow1 := drop_flatMap A.cells 5 A.cells_length acts1 _ _ hq1
                have hB1 := CB1 _ (List.mem_of_getElem? hq1)
                obtain ⟨hsa1, hsb1⟩ := runF_s M acts1 i
                refine WL.val run_move rfl rfl ?_
                refine WL.val (run_indexAddr Try.underlying37 Try.sizeOf44 rfl rfl (by omega) (by omega)) rfl rfl ?_
                refine WL.val (run_loadN Try.isAgg44 Try.sizeOf44 rfl rfl ((h.reads (Gives.to C1)).elem (i := i) (vs := [.int .i64 ao1, .int .i64 af1, .int .i64 at1, .int .i64 an1, .slice ax1 abs1.length ac1]) (by omega) hrow1)) rfl rfl ?_
                refine WL.eff (eff_call Try.call18 (do_ok (a := ⟨ao1, af1, at1, an1, ax1, ac1, abs1⟩) h (Gives.to hB1) (by omega) (by omega))) rfl rfl ?_
                rintro _ w ⟨rfl, pool, hsub, h⟩
                rw [runF_succ hq1] at h
                have h := poolN hsub h.p3
                refine WL.val (run_not rfl) rfl rfl ?_
                refine WL.val (run_pickT rfl) rfl rfl ?_
                refine WL.val run_move rfl rfl ?_
                refine WL.val run_move rfl rfl ?_
                refine WL.val run_move rfl rfl ?_
                refine WL.val (run_lenSlice Try.underlying37 rfl) rfl rfl ?_
                refine WL.dec (run_lss rfl rfl) rfl rfl (fun c88 => ?_) (fun c88 => ?_)
                · skip
                  refine WL.val run_move rfl rfl ?_
                  refine WL.val run_move rfl rfl ?_
                  refine WL.val run_move rfl rfl ?_
                  refine WL.val run_move rfl rfl ?_
                  obtain ⟨bq2, oq2, hal2⟩ := (h.reads (Gives.to C2)).addr (by omega)
                  subst hal2
                  obtain ⟨⟨ao2, af2, at2, an2, ax2, ac2, abs2⟩, hq2⟩ : ∃ a, acts2[i]? = some a := ⟨acts2[i], by simp⟩
                  have hrow2 := drop_flatMap A.cells 5 A.cells_length acts2 _ _ hq2
                  have hB2 := CB2 _ (List.mem_of_getElem? hq2)
                  obtain ⟨hsa2, hsb2⟩ := runF_s M acts2 i
                  refine WL.val run_move rfl rfl ?_
                  refine WL.val (run_indexAddr Try.underlying37 Try.sizeOf44 rfl rfl (by omega) (by omega)) rfl rfl ?_
                  refine WL.val (run_loadN Try.isAgg44 Try.sizeOf44 rfl rfl ((h.reads (Gives.to C2)).elem (i := i) (vs := [.int .i64 ao2, .int .i64 af2, .int .i64 at2, .int .i64 an2, .slice ax2 abs2.length ac2]) (by omega) hrow2)) rfl rfl ?_
                  refine WL.eff (eff_call Try.call18 (do_ok (a := ⟨ao2, af2, at2, an2, ax2, ac2, abs2⟩) (((h.fetch (Pool pool)).fetch (RefP 47 b' (runF M acts2 i))).fetch (NetP 58 b (runF M acts2 i) pool)) (Gives.to hB2) (by omega) (by omega))) rfl rfl ?_
                  rintro _ w ⟨rfl, pool, hsub, h⟩
                  rw [runF_succ hq2] at h
                  have h := poolN hsub (h.fetch (NetP 58 bt (runF M acts1 (i + 1)) _))
                  refine WL.val (run_not rfl) rfl rfl ?_
                  refine WL.val (run_pickT rfl) rfl rfl ?_
                  refine WL.val (run_pickF rfl) rfl rfl ?_
                  refine WL.nil ?_
                  refine W.condF rfl ?_
                  refine W.skip ?_
                  refine W.region ?_
                  refine WL.val run_move rfl rfl ?_
                  refine WL.val (run_add rfl rfl (by omega) (by omega)) rfl rfl ?_
                  refine WL.val run_assign rfl rfl ?_
                  refine WL.nil ?_
                  -- round, path TTTLFLTT
                  exact ⟨i + 1, ⟨_, pool, mkE_of ⟨rfl, rfl, rfl, rfl, rfl, rfl, rfl, trivial⟩, by omega, (by exact h.to)⟩, by show acts1.length - (i + 1) + (acts2.length - (i + 1)) < acts1.length - i + (acts2.length - i); omega⟩
                · skip
                  refine WL.val run_move rfl rfl ?_
                  refine WL.skip rfl rfl ?_
                  refine WL.skip rfl rfl ?_
                  refine WL.skip rfl rfl ?_
                  refine WL.skip rfl rfl ?_
                  refine WL.skip rfl rfl ?_
                  refine WL.skip rfl rfl ?_
                  refine WL.skip rfl rfl ?_
                  refine WL.skip rfl rfl ?_
                  refine WL.val (run_pickF rfl) rfl rfl ?_
                  refine WL.val (run_pickF rfl) rfl rfl ?_
                  refine WL.nil ?_
                  refine W.condF rfl ?_
                  refine W.skip ?_
                  refine W.region ?_
                  refine WL.val run_move rfl rfl ?_
                  refine WL.val (run_add rfl rfl (by omega) (by omega)) rfl rfl ?_
                  refine WL.val run_assign rfl rfl ?_
                  refine WL.nil ?_
                  -- round, path TTTLFLTF
                  exact ⟨i + 1, ⟨_, pool, mkE_of ⟨rfl, rfl, rfl, rfl, rfl, rfl, rfl, trivial⟩, by omega, (by rw [runF_end (acts := acts2) (k := i) (by omega)]; exact h.to)⟩, by show acts1.length - (i + 1) + (acts2.length - (i + 1)) < acts1.length - i + (acts2.length - i); omega⟩
              · skip
                refine WL.val run_move rfl rfl ?_
                refine WL.val run_move rfl rfl ?_
                refine WL.val run_move rfl rfl ?_
                refine WL.val (run_lenSlice Try.underlying37 rfl) rfl rfl ?_
                refine WL.val (run_lss rfl rfl) rfl rfl ?_
                refine WL.val (run_pickF rfl) rfl rfl ?_
                refine WL.nil ?_
                refine W.condIf rfl (fun c38 => ?_) (fun c38 => ?_)
                · skip
                  refine W.skip ?_
                  refine W.seq ?_
                  refine W.block ?_
                  refine W.seq ?_
                  refine W.region ?_
                  refine WL.val run_move rfl rfl ?_
                  refine WL.val run_move rfl rfl ?_
                  refine WL.val (run_lenSlice Try.underlying37 rfl) rfl rfl ?_
                  refine WL.val (run_lssF rfl rfl (c61)) rfl rfl ?_
                  refine WL.val run_move rfl rfl ?_
                  refine WL.skip rfl rfl ?_
                  refine WL.skip rfl rfl ?_
                  refine WL.skip rfl rfl ?_
                  refine WL.skip rfl rfl ?_
                  refine WL.skip rfl rfl ?_
                  refine WL.skip rfl rfl ?_
                  refine WL.skip rfl rfl ?_
                  refine WL.skip rfl rfl ?_
                  refine WL.val (run_pickF rfl) rfl rfl ?_
                  refine WL.val run_move rfl rfl ?_
                  refine WL.val run_move rfl rfl ?_
                  refine WL.val run_move rfl rfl ?_
                  refine WL.val (run_lenSlice Try.underlying37 rfl) rfl rfl ?_
                  refine WL.val (run_lssT rfl rfl (c38)) rfl rfl ?_
                  refine WL.val run_move rfl rfl ?_
                  refine WL.val run_move rfl rfl ?_
                  refine WL.val run_move rfl rfl ?_
                  refine WL.val run_move rfl rfl ?_
                  obtain ⟨bq2, oq2, hal2⟩ := (h.reads (Gives.to C2)).addr (by omega)
                  subst hal2
                  obtain ⟨⟨ao2, af2, at2, an2, ax2, ac2, abs2⟩, hq2⟩ : ∃ a, acts2[i]? = some a := ⟨acts2[i], by simp⟩
                  have hrow2 := drop_flatMap A.cells 5 A.cells_length acts2 _ _ hq2
                  have hB2 := CB2 _ (List.mem_of_getElem? hq2)
                  obtain ⟨hsa2, hsb2⟩ := runF_s M acts2 i
                  refine WL.val run_move rfl rfl ?_
                  refine WL.val (run_indexAddr Try.underlying37 Try.sizeOf44 rfl rfl (by omega) (by omega)) rfl rfl ?_
                  refine WL.val (run_loadN Try.isAgg44 Try.sizeOf44 rfl rfl ((h.reads (Gives.to C2)).elem (i := i) (vs := [.int .i64 ao2, .int .i64 af2, .int .i64 at2, .int .i64 an2, .slice ax2 abs2.length ac2]) (by omega) hrow2)) rfl rfl ?_
                  refine WL.eff (eff_call Try.call18 (do_ok (a := ⟨ao2, af2, at2, an2, ax2, ac2, abs2⟩) (((h.fetch (Pool pool)).fetch (RefP 47 b' (runF M acts2 i))).fetch (NetP 58 b (runF M acts2 i) pool)) (Gives.to hB2) (by omega) (by omega))) rfl rfl ?_
                  rintro _ w ⟨rfl, pool, hsub, h⟩
                  rw [runF_succ hq2] at h
                  have h := poolN hsub (h.fetch (NetP 58 bt (runF M acts1 (i)) _))
                  refine WL.val (run_not rfl) rfl rfl ?_
                  refine WL.val (run_pickT rfl) rfl rfl ?_
                  refine WL.val (run_pickF rfl) rfl rfl ?_
                  refine WL.nil ?_
                  refine W.condF rfl ?_
                  refine W.skip ?_
                  refine W.region ?_
                  refine WL.val run_move rfl rfl ?_
                  refine WL.val (run_add rfl rfl (by omega) (by omega)) rfl rfl ?_
                  refine WL.val run_assign rfl rfl ?_
                  refine WL.nil ?_
                  -- round, path TTTLFLFT
                  exact ⟨i + 1, ⟨_, pool, mkE_of ⟨rfl, rfl, rfl, rfl, rfl, rfl, rfl, trivial⟩, by omega, (by rw [runF_end (acts := acts1) (k := i) (by omega)]; exact h.to)⟩, by show acts1.length - (i + 1) + (acts2.length - (i + 1)) < acts1.length - i + (acts2.length - i); omega⟩
                · skip
                  refine W.exit ?_
                  refine W.seq ?_
                  obtain ⟨ra, rc, hr1, h⟩ := openR h.p1
                  obtain ⟨ra', rc', hr1', h⟩ := openR h.p5
                  generalize runF M acts1 i = M1 at h hr1
                  generalize runF M acts2 i = M2 at h hr1'
                  refine W.draw Try.follows h (fun w h => ?_)
                  refine WT.pure 0 rfl (by kernel_rfl) (fun w' => run_move) rfl rfl ?_
                  refine WT.pure 2 rfl (by kernel_rfl) (fun w' => run_move) rfl rfl ?_
                  refine WT.pure 3 rfl (by kernel_rfl) (fun w' => (run_nilCheck rfl)) rfl rfl ?_
                  refine WT.pure 4 rfl (by kernel_rfl) (fun w' => (run_fieldAddr 1 Try.underlying47 rfl Try.sizeOf45 rfl rfl)) rfl rfl ?_
                  refine WT.load1 5 rfl (by kernel_rfl) Try.isAgg45 rfl (h.cellB rfl) rfl rfl ?_
                  refine WT.pure 6 rfl (by kernel_rfl) (fun w' => (run_lenSlice Try.underlying45 rfl)) rfl rfl ?_
                  refine WT.eff 1 [true] rfl (by kernel_rfl) (by kernel_rfl) (eff_call Try.call12 (waitingN (h.fetch (NetP 58 bt (M1) pool)))) rfl rfl ?_
                  rintro _ w ⟨rfl, h⟩
                  refine ⟨⟨h.cellB rfl, trivial⟩, ?_⟩
                  refine WT.pure 7 rfl (by kernel_rfl) (fun w' => run_eqlT rfl rfl (rfl)) rfl rfl ?_
                  refine WT.pure 8 rfl (by kernel_rfl) (fun w' => run_move) rfl rfl ?_
                  refine WT.pure 9 rfl (by kernel_rfl) (fun w' => run_move) rfl rfl ?_
                  refine WT.pure 11 rfl (by kernel_rfl) (fun w' => run_move) rfl rfl ?_
                  refine WT.pure 12 rfl (by kernel_rfl) (fun w' => (run_nilCheck rfl)) rfl rfl ?_
                  refine WT.pure 13 rfl (by kernel_rfl) (fun w' => (run_fieldAddr 1 Try.underlying47 rfl Try.sizeOf45 rfl rfl)) rfl rfl ?_
                  refine WT.load1 14 rfl (by kernel_rfl) Try.isAgg45 rfl (h.cellB rfl) rfl rfl ?_
                  refine WT.pure 15 rfl (by kernel_rfl) (fun w' => (run_lenSlice Try.underlying45 rfl)) rfl rfl ?_
                  refine WT.eff 10 [true, false] rfl (by kernel_rfl) (by kernel_rfl) (eff_call Try.call12 (waitingN (h.fetch (NetP 58 b (M2) pool)))) rfl rfl ?_
                  rintro _ w ⟨rfl, h⟩
                  refine ⟨⟨h.cellB rfl, trivial⟩, ?_⟩
                  refine WT.pure 16 rfl (by kernel_rfl) (fun w' => run_eqlT rfl rfl (rfl)) rfl rfl ?_
                  refine WT.pure 17 rfl (by kernel_rfl) (fun w' => (run_pickT rfl)) rfl rfl ?_
                  refine WT.pure 18 rfl (by kernel_rfl) (fun w' => run_move) rfl rfl ?_
                  refine WT.pure 19 rfl (by kernel_rfl) (fun w' => run_move) rfl rfl ?_
                  refine WT.pure 21 rfl (by kernel_rfl) (fun w' => run_move) rfl rfl ?_
                  refine WT.pure 22 rfl (by kernel_rfl) (fun w' => (run_nilCheck rfl)) rfl rfl ?_
                  refine WT.pure 23 rfl (by kernel_rfl) (fun w' => (run_fieldAddr 2 Try.underlying47 rfl Try.sizeOf3 rfl rfl)) rfl rfl ?_
                  refine WT.load1 24 rfl (by kernel_rfl) Try.isAgg3 rfl (h.cellB rfl) rfl rfl ?_
                  refine WT.eff 20 [true, false] rfl (by kernel_rfl) (by kernel_rfl) (eff_call Try.call13 (sentN (h.fetch (NetP 58 bt (M1) pool)))) rfl rfl ?_
                  rintro _ w ⟨rfl, h⟩
                  refine ⟨⟨h.cellB rfl, trivial⟩, ?_⟩
                  refine WT.pure 25 rfl (by kernel_rfl) (fun w' => run_eqlT rfl rfl (rfl)) rfl rfl ?_
                  refine WT.pure 26 rfl (by kernel_rfl) (fun w' => (run_pickT rfl)) rfl rfl ?_
                  refine WT.pure 27 rfl (by kernel_rfl) (fun w' => run_move) rfl rfl ?_
                  refine WT.pure 28 rfl (by kernel_rfl) (fun w' => run_move) rfl rfl ?_
                  refine WT.pure 30 rfl (by kernel_rfl) (fun w' => run_move) rfl rfl ?_
                  refine WT.pure 31 rfl (by kernel_rfl) (fun w' => (run_nilCheck rfl)) rfl rfl ?_
                  refine WT.pure 32 rfl (by kernel_rfl) (fun w' => (run_fieldAddr 2 Try.underlying47 rfl Try.sizeOf3 rfl rfl)) rfl rfl ?_
                  refine WT.load1 33 rfl (by kernel_rfl) Try.isAgg3 rfl (h.cellB rfl) rfl rfl ?_
                  refine WT.eff 29 [true, false] rfl (by kernel_rfl) (by kernel_rfl) (eff_call Try.call13 (sentN (h.fetch (NetP 58 b (M2) pool)))) rfl rfl ?_
                  rintro _ w ⟨rfl, h⟩
                  refine ⟨⟨h.cellB rfl, trivial⟩, ?_⟩
                  refine WT.pure 34 rfl (by kernel_rfl) (fun w' => run_eqlT rfl rfl (rfl)) rfl rfl ?_
                  refine WT.pure 35 rfl (by kernel_rfl) (fun w' => (run_pickT rfl)) rfl rfl ?_
                  refine WT.pure 36 rfl (by kernel_rfl) (fun w' => run_assign) rfl rfl ?_
                  refine WT.done (by kernel_rfl) ?_
                  refine W.ret ?_
                  refine bodyQ.r1 (v := .bool _) Try.results8 rfl ?_
                  -- path TTTLFLFF
                  exact ⟨rfl, h.to⟩
      · skip
        refine WL.val (run_not rfl) rfl rfl ?_
        refine WL.val (run_pickF rfl) rfl rfl ?_
        refine WL.nil ?_
        refine W.condT rfl ?_
        refine W.seq ?_
        refine W.region ?_
        refine WL.val run_assign rfl rfl ?_
        refine WL.nil ?_
        refine W.ret ?_
        refine bodyQ.r1 (v := .bool _) Try.results8 rfl ?_
        -- path TTF
        exact ⟨rfl, h⟩
    · skip
      refine WL.val (run_not rfl) rfl rfl ?_
      refine WL.val (run_pickF rfl) rfl rfl ?_
      refine WL.val run_move rfl rfl ?_
      refine WL.skip rfl rfl ?_
      refine WL.skip rfl rfl ?_
      refine WL.skip rfl rfl ?_
      refine WL.val (run_pickT rfl) rfl rfl ?_
      refine WL.nil ?_
      refine W.condT rfl ?_
      refine W.seq ?_
      refine W.region ?_
      refine WL.val run_assign rfl rfl ?_
      refine WL.nil ?_
      refine W.ret ?_
      refine bodyQ.r1 (v := .bool _) Try.results8 rfl ?_
      -- path TF
      exact ⟨rfl, h⟩
  · skip
    refine WL.val (run_not rfl) rfl rfl ?_
    refine WL.val run_move rfl rfl ?_
    refine WL.skip rfl rfl ?_
    refine WL.skip rfl rfl ?_
    refine WL.skip rfl rfl ?_
    refine WL.val (run_pickT rfl) rfl rfl ?_
    refine WL.val run_move rfl rfl ?_
    refine WL.skip rfl rfl ?_
    refine WL.skip rfl rfl ?_
    refine WL.skip rfl rfl ?_
    refine WL.val (run_pickT rfl) rfl rfl ?_
    refine WL.nil ?_
    refine W.condT rfl ?_
    refine W.seq ?_
    refine W.region ?_
    refine WL.val run_assign rfl rfl ?_
    refine WL.nil ?_
    refine W.ret ?_
    refine bodyQ.r1 (v := .bool _) Try.results8 rfl ?_
    -- path F
    exact ⟨rfl, h⟩

end Go.Proofs.Ytiejlelkmklgcaa
