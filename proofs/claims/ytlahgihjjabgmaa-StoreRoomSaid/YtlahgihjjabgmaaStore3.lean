/-
  A store is compacted: the contracts. Lines of walks printed by a program of the prover's.
-/
import Derived.Test.YtlahgihjjabgmaaStore2
namespace Go.Proofs.Ytlahgihjjabgmaa
open Go Go.Sl Go.Sl.ByM Go.Sl.DkM Go.Sl.TwM Go.Sl.RgM Go.Sl.StM
set_option linter.unusedVariables false
set_option linter.unusedSimpArgs false
set_option maxHeartbeats 1000000
set_option maxRecDepth 8000
variable {W0 w : World} {L F : List HProp}

theorem ssave_ok {bs b bt idx : Nat} {hd : Hd} {vr sv lv : Value} {d : Dk} {ax : Option Addr} {cx : Nat} {sn : List UInt8} (o : hd.ok) (hidx : idx < 18446744073709551616) (hsn : sn.length ≤ 24576) (hl : Live d) (hn : d.n = 354) (hlow : d.calls ≤ 1000000000) (h : On W0 (blk bs [.pointer (some ⟨b, 0, none⟩), .pointer (some ⟨bt, 0, none⟩), vr, .int .u64 (hd.epoch : Int), .int .u32 (hd.life : Int), .int .i64 (hd.which : Int), .int .u64 (hd.base : Int), .int .i64 (hd.size : Int), .int .u64 (hd.first : Int), .int .i64 (hd.place : Int), sv, lv] 150 :: DiskP 106 110 b d :: L) w) (C : Gives L (Bytes (.slice ax sn.length cx) sn)) : Calls Try.prog 103 #[.pointer (some ⟨bs, 0, none⟩), .int .u64 (idx : Int), .slice ax sn.length cx] w (Ret fun v w' => v = .tuple #[.agg #[.int .u64 (hd.epoch : Int), .int .u32 (hd.life : Int), .int .i64 ((1 - hd.which : Nat) : Int), .int .u64 (idx : Int), .int .i64 (sn.length : Int), .int .u64 (hd.first : Int), .int .i64 (hd.place : Int)], .int .i64 0] ∧ On W0 (blk bs [.pointer (some ⟨b, 0, none⟩), .pointer (some ⟨bt, 0, none⟩), vr, .int .u64 (hd.epoch : Int), .int .u32 (hd.life : Int), .int .i64 (hd.which : Int), .int .u64 (hd.base : Int), .int .i64 (hd.size : Int), .int .u64 (hd.first : Int), .int .i64 (hd.place : Int), sv, lv] 150 :: DiskP 106 110 b (flushD (saveW d (1 - hd.which) sn (secN sn.length))).2 :: L) w') := by
  refine enter Try.func103 rfl Try.ntmps103 rfl ?_
  obtain ⟨o1, o2, o3, o4, o5, o6, o7⟩ := o
  have hmx := maxLen_eq
  have hK := secN_le hsn
  have hKg := secN_ge sn.length
  have ob_ : ∃ K, K = secN sn.length := ⟨_, rfl⟩
  obtain ⟨K, hKe⟩ := ob_
  rw [← hKe] at hK hKg
  have hlx := (h.readsTo C).bounds
  refine W.seq ?_
  refine W.region ?_
  refine WL.eff (eff_alloc h Try.zeroValue144 rfl) rfl rfl ?_
  rintro _ w ⟨b6, rfl, h⟩
  refine WL.val run_assign rfl rfl ?_
  refine WL.nil ?_
  refine W.scope ?_
  refine W.seq ?_
  refine W.region ?_
  refine WL.val run_move rfl rfl ?_
  refine WL.val (run_nilCheck rfl) rfl rfl ?_
  refine WL.val (run_fieldAddr 3 Try.underlying150 rfl Try.sizeOf144 rfl rfl) rfl rfl ?_
  refine WL.val (run_loadB (vs := [.int .u64 _, .int .u32 _, .int .i64 _, .int .u64 _, .int .i64 _, .int .u64 _, .int .i64 _]) h Try.isAgg144 Try.sizeOf144 rfl rfl rfl) rfl rfl ?_
  refine WL.eff (eff_alloc h Try.zeroValue144 rfl) rfl rfl ?_
  rintro _ w ⟨b8, rfl, h⟩
  refine WL.eff (eff_storeN (vs := [.int .u64 _, .int .u32 _, .int .i64 _, .int .u64 _, .int .i64 _, .int .u64 _, .int .i64 _]) h Try.sizeOf144 rfl rfl rfl rfl rfl (fun k _ _ => free0 k)) rfl rfl ?_
  rintro _ w h
  try simp only [splice, List.take_zero, List.take_succ_cons, List.take_nil, List.drop_succ_cons, List.drop_zero, List.drop_nil, List.nil_append, List.cons_append, List.append_nil, List.length_cons, List.length_nil, Nat.zero_add, Nat.reduceAdd] at h
  refine WL.nil ?_
  refine W.seq ?_
  refine W.region ?_
  refine WL.val (run_fieldAddr 2 Try.underlying144 rfl Try.sizeOf3 rfl rfl) rfl rfl ?_
  refine WL.val (run_load1 Try.isAgg3 rfl (h.cellB rfl)) rfl rfl ?_
  refine WL.val (run_subN (m := 1) (n := hd.which) rfl rfl (by omega) (by decide)) rfl rfl ?_
  refine WL.val run_move rfl rfl ?_
  refine WL.val run_move rfl rfl ?_
  refine WL.val (run_lenSlice Try.underlying22 rfl) rfl rfl ?_
  refine WL.val (run_fieldAddr 2 Try.underlying144 rfl Try.sizeOf3 rfl rfl) rfl rfl ?_
  refine WL.eff (eff_store (v := .int .i64 _) h Try.sizeOf3 rfl rfl rfl rfl rfl) rfl rfl ?_
  rintro _ w h
  try simp only [Nat.zero_add, Nat.add_zero, List.set_cons_zero, List.set_cons_succ] at h
  refine WL.val (run_fieldAddr 3 Try.underlying144 rfl Try.sizeOf40 rfl rfl) rfl rfl ?_
  refine WL.eff (eff_store (v := .int .u64 _) h Try.sizeOf40 rfl rfl rfl rfl rfl) rfl rfl ?_
  rintro _ w h
  try simp only [Nat.zero_add, Nat.add_zero, List.set_cons_zero, List.set_cons_succ] at h
  refine WL.val (run_fieldAddr 4 Try.underlying144 rfl Try.sizeOf3 rfl rfl) rfl rfl ?_
  refine WL.eff (eff_store (v := .int .i64 _) h Try.sizeOf3 rfl rfl rfl rfl rfl) rfl rfl ?_
  rintro _ w h
  try simp only [Nat.zero_add, Nat.add_zero, List.set_cons_zero, List.set_cons_succ] at h
  refine WL.nil ?_
  refine W.seq ?_
  refine W.label ?_
  refine W.seq ?_
  refine W.seq ?_
  refine W.region ?_
  refine WL.val run_assign rfl rfl ?_
  refine WL.nil ?_
  refine W.block ?_
  refine W.loop (fun (i : Nat) env w => i ≤ K ∧ ∃ (j : Env), env = mkE j [(0, .pointer (some ⟨bs, 0, none⟩)), (2, .slice ax sn.length cx), (6, .pointer (some ⟨b6, 0, none⟩)), (7, .int .i64 0), (8, .pointer (some ⟨b8, 0, none⟩)), (9, .int .i64 (i : Nat))] ∧ On W0 (blk b8 [.int .u64 (hd.epoch : Int), .int .u32 (hd.life : Int), .int .i64 ((1 - hd.which : Nat) : Int), .int .u64 (idx : Int), .int .i64 (sn.length : Int), .int .u64 (hd.first : Int), .int .i64 (hd.place : Int)] 144 :: blk b6 [.int .u64 0, .int .u32 0, .int .i64 0, .int .u64 0, .int .i64 0, .int .u64 0, .int .i64 0] 144 :: blk bs [.pointer (some ⟨b, 0, none⟩), .pointer (some ⟨bt, 0, none⟩), vr, .int .u64 (hd.epoch : Int), .int .u32 (hd.life : Int), .int .i64 (hd.which : Int), .int .u64 (hd.base : Int), .int .i64 (hd.size : Int), .int .u64 (hd.first : Int), .int .i64 (hd.place : Int), sv, lv] 150 :: DiskP 106 110 b (saveW d (1 - hd.which) sn i) :: L) w) (fun i => K - i) (0) ?_ ?_
  · have h0 : On W0 (blk b8 [.int .u64 (hd.epoch : Int), .int .u32 (hd.life : Int), .int .i64 ((1 - hd.which : Nat) : Int), .int .u64 (idx : Int), .int .i64 (sn.length : Int), .int .u64 (hd.first : Int), .int .i64 (hd.place : Int)] 144 :: blk b6 [.int .u64 0, .int .u32 0, .int .i64 0, .int .u64 0, .int .i64 0, .int .u64 0, .int .i64 0] 144 :: blk bs [.pointer (some ⟨b, 0, none⟩), .pointer (some ⟨bt, 0, none⟩), vr, .int .u64 (hd.epoch : Int), .int .u32 (hd.life : Int), .int .i64 (hd.which : Int), .int .u64 (hd.base : Int), .int .i64 (hd.size : Int), .int .u64 (hd.first : Int), .int .i64 (hd.place : Int), sv, lv] 150 :: DiskP 106 110 b d :: L) w := h.to
    exact ⟨Nat.zero_le _, _, mkE_of ⟨rfl, rfl, rfl, rfl, rfl, rfl, trivial⟩, h0⟩
  · clear h
    rintro i env w ⟨hi, j, rfl, h⟩
    have ob_ := save_live (d := d) (w := 1 - hd.which) (s := sn) hl hn (by omega) i (by omega)
    obtain ⟨sl, sn_, sc, _, _⟩ := ob_
    refine W.seq ?_
    refine W.block ?_
    refine W.seq ?_
    refine W.region ?_
    refine WL.val run_move rfl rfl ?_
    refine WL.val (run_mulN (m := i) (n := 512) rfl rfl (by omega)) rfl rfl ?_
    refine WL.val run_assign rfl rfl ?_
    refine WL.nil ?_
    refine W.seq ?_
    refine W.seq ?_
    refine W.region ?_
    refine WL.val run_move rfl rfl ?_
    refine WL.val run_move rfl rfl ?_
    refine WL.val (run_lenSlice Try.underlying22 rfl) rfl rfl ?_
    refine WL.val (run_geq rfl rfl) rfl rfl ?_
    refine WL.nil ?_
    refine W.condIf rfl (fun c11 => ?_) (fun c11 => ?_)
    · skip
      refine W.exit ?_
      refine W.seq ?_
      have hiK : i = K := by rw [hKe] at hi ⊢; exact secN_end (by omega) hi
      subst hiK
      refine W.draw Try.follows h (fun w h => ?_)
      refine WT.loadN (vs := [.int .u64 _, .int .u32 _, .int .i64 _, .int .u64 _, .int .i64 _, .int .u64 _, .int .i64 _]) 0 rfl (by kernel_rfl) Try.isAgg144 Try.sizeOf144 rfl rfl (h.rowV (n := 7) rfl) rfl rfl ?_
      refine WT.pure 1 rfl (by kernel_rfl) (fun w' => run_move) rfl rfl ?_
      refine WT.pure 2 rfl (by kernel_rfl) (fun w' => (run_nilCheck rfl)) rfl rfl ?_
      refine WT.pure 3 rfl (by kernel_rfl) (fun w' => (run_fieldAddr 0 Try.underlying150 rfl Try.sizeOf26 rfl rfl)) rfl rfl ?_
      refine WT.load1 4 rfl (by kernel_rfl) Try.isAgg26 rfl (h.cellB rfl) rfl rfl ?_
      refine WT.eff 5 [false, true] rfl (by kernel_rfl) (by kernel_rfl) (eff_call Try.call18 (flush_ok (d := (saveW d (1 - hd.which) sn i)) ⟨by omega, by rw [sl.armed]; decide⟩ (h.fetch (DiskP 106 110 b (saveW d (1 - hd.which) sn i))))) rfl rfl ?_
      rintro v61 w ⟨hv61, h⟩
      rw [(live_flush sl).1] at hv61
      subst hv61
      refine ⟨⟨(h.rowV (n := 7) rfl), trivial⟩, ?_⟩
      refine WT.eff 6 [false] rfl (by kernel_rfl) (by kernel_rfl) (eff_storeN (vs := [.int .u64 _, .int .u32 _, .int .i64 _, .int .u64 _, .int .i64 _, .int .u64 _, .int .i64 _]) h Try.sizeOf144 rfl rfl rfl rfl rfl (fun k _ _ => free0 k)) rfl rfl ?_
      rintro _ w h
      try simp only [splice, List.take_zero, List.take_succ_cons, List.take_nil, List.drop_succ_cons, List.drop_zero, List.drop_nil, List.nil_append, List.cons_append, List.append_nil, List.length_cons, List.length_nil, Nat.zero_add, Nat.reduceAdd] at h
      refine ⟨trivial, ?_⟩
      refine WT.pure 7 rfl (by kernel_rfl) (fun w' => run_assign) rfl rfl ?_
      refine WT.done (by kernel_rfl) ?_
      refine W.ret ?_
      refine bodyQ.rctB (vs := [.int .u64 _, .int .u32 _, .int .i64 _, .int .u64 _, .int .i64 _, .int .u64 _, .int .i64 _]) (v2 := .int .i64 _) h Try.results103 Try.isAgg144 Try.sizeOf144 rfl rfl rfl rfl ?_
      -- path LT
      rw [← hKe]
      exact ⟨rfl, h.to⟩
    · skip
      refine W.skip ?_
      refine W.seq ?_
      have hlt : i * 512 < sn.length := by omega
      have hi2 : i < K := by rw [hKe]; exact secN_lt hlt
      have hcut := cut_bytes (L := L) (l := i * 512) (h := min (i * 512 + 512) sn.length) (bs := sn) C hlx.1 (by omega) (Nat.min_le_right _ _)
      rw [part_cutS] at hcut
      obtain ⟨ap, cp, hcut, gP⟩ := hcut
      have hple := partS_le sn i
      refine W.draw Try.follows h (fun w h => ?_)
      refine WT.pure 0 rfl (by kernel_rfl) (fun w' => run_move) rfl rfl ?_
      refine WT.pure 1 rfl (by kernel_rfl) (fun w' => (run_nilCheck rfl)) rfl rfl ?_
      refine WT.pure 2 rfl (by kernel_rfl) (fun w' => (run_fieldAddr 0 Try.underlying150 rfl Try.sizeOf26 rfl rfl)) rfl rfl ?_
      refine WT.load1 3 rfl (by kernel_rfl) Try.isAgg26 rfl (h.cellB rfl) rfl rfl ?_
      refine WT.pure 4 rfl (by kernel_rfl) (fun w' => (run_fieldAddr 2 Try.underlying144 rfl Try.sizeOf3 rfl rfl)) rfl rfl ?_
      refine WT.load1 5 rfl (by kernel_rfl) Try.isAgg3 rfl (h.cellB rfl) rfl rfl ?_
      refine WT.pure 6 rfl (by kernel_rfl) (fun w' => (run_mulN (m := 1 - hd.which) (n := 48) rfl rfl (by omega))) rfl rfl ?_
      refine WT.pure 7 rfl (by kernel_rfl) (fun w' => (run_addN (m := 2) (n := (1 - hd.which) * 48) rfl rfl (by omega))) rfl rfl ?_
      refine WT.pure 8 rfl (by kernel_rfl) (fun w' => run_move) rfl rfl ?_
      refine WT.pure 9 rfl (by kernel_rfl) (fun w' => (run_addN (m := 2 + (1 - hd.which) * 48) (n := i) rfl rfl (by omega))) rfl rfl ?_
      refine WT.pure 10 rfl (by kernel_rfl) (fun w' => run_move) rfl rfl ?_
      refine WT.pure 11 rfl (by kernel_rfl) (fun w' => run_move) rfl rfl ?_
      refine WT.pure 12 rfl (by kernel_rfl) (fun w' => run_move) rfl rfl ?_
      refine WT.pure 13 rfl (by kernel_rfl) (fun w' => (run_addN (m := i * 512) (n := 512) rfl rfl (by omega))) rfl rfl ?_
      refine WT.pure 14 rfl (by kernel_rfl) (fun w' => run_move) rfl rfl ?_
      refine WT.pure 15 rfl (by kernel_rfl) (fun w' => (run_lenSlice Try.underlying22 rfl)) rfl rfl ?_
      refine WT.pure 16 rfl (by kernel_rfl) (fun w' => (run_minN (m := i * 512 + 512) (n := sn.length) (r := min (i * 512 + 512) sn.length) rfl rfl rfl)) rfl rfl ?_
      refine WT.pure 17 rfl (by kernel_rfl) (fun w' => (run_cutLHV (l := i * 512) (h := min (i * 512 + 512) sn.length) Try.underlying22 Try.sizeOf5 rfl rfl rfl (by omega) (by omega) hcut)) rfl rfl ?_
      refine WT.eff 18 [false, false] rfl (by kernel_rfl) (by kernel_rfl) (eff_call Try.call17 (write_live (b := b) (d := (saveW d (1 - hd.which) sn i)) (k := ((2 + (1 - hd.which) * 48 + i : Nat) : Int)) (bs := partS sn i) sl ⟨by omega, by rw [sn_]; omega⟩ hple ⟨by omega, by rw [sl.armed]; decide⟩ (h.fetch (DiskP 106 110 b (saveW d (1 - hd.which) sn i))) (Gives.to gP))) rfl rfl ?_
      rintro _ w ⟨rfl, h⟩
      have h : On W0 (DiskP 106 110 b (saveW d (1 - hd.which) sn (i + 1)) :: _) w := h
      refine ⟨trivial, ?_⟩
      refine WT.pure 19 rfl (by kernel_rfl) (fun w' => run_assign) rfl rfl ?_
      refine WT.done (by kernel_rfl) ?_
      refine W.seq ?_
      refine W.region ?_
      refine WL.val run_move rfl rfl ?_
      refine WL.val (run_neqF rfl rfl (rfl)) rfl rfl ?_
      refine WL.nil ?_
      refine W.condF rfl ?_
      refine W.skip ?_
      refine W.region ?_
      refine WL.val run_move rfl rfl ?_
      refine WL.val (run_incN rfl rfl (by omega)) rfl rfl ?_
      refine WL.val run_assign rfl rfl ?_
      refine WL.nil ?_
      -- round, path LF
      have h2 : On W0 (blk b8 [.int .u64 (hd.epoch : Int), .int .u32 (hd.life : Int), .int .i64 ((1 - hd.which : Nat) : Int), .int .u64 (idx : Int), .int .i64 (sn.length : Int), .int .u64 (hd.first : Int), .int .i64 (hd.place : Int)] 144 :: blk b6 [.int .u64 0, .int .u32 0, .int .i64 0, .int .u64 0, .int .i64 0, .int .u64 0, .int .i64 0] 144 :: blk bs [.pointer (some ⟨b, 0, none⟩), .pointer (some ⟨bt, 0, none⟩), vr, .int .u64 (hd.epoch : Int), .int .u32 (hd.life : Int), .int .i64 (hd.which : Int), .int .u64 (hd.base : Int), .int .i64 (hd.size : Int), .int .u64 (hd.first : Int), .int .i64 (hd.place : Int), sv, lv] 150 :: DiskP 106 110 b (saveW d (1 - hd.which) sn (i + 1)) :: L) w := h.to
      exact ⟨i + 1, ⟨by omega, _, mkE_of ⟨rfl, rfl, rfl, rfl, rfl, rfl, trivial⟩, h2⟩, by show K - (i + 1) < K - i; omega⟩

theorem clone_ents {ao : Option Addr} {cap n : Nat} {xs : List Value} (h : On W0 L w) (C : Gives L (Cells 3 (.slice ao n cap) n xs)) (hn : n ≤ 1000000000) (h1 : ∀ u ∈ xs, u.oneCell' = true) :
    Calls Try.prog 104 #[.slice ao n cap] w (Ret fun v w' => ∃ a c, v = .slice a n c ∧ On W0 (Own 3 (.slice a n c) n xs :: L) w') := by
  refine enter Try.func104 rfl Try.ntmps104 rfl ?_
  have ob_ := (h.reads C).form
  obtain ⟨ao', cap', hv, hnc, hcm, hnone⟩ := ob_
  have hxl := (h.reads C).1
  simp only [Value.slice.injEq] at hv
  obtain ⟨rfl, _, rfl⟩ := hv
  have hl := maxLen_eq
  refine W.seq ?_
  refine W.region ?_
  refine WL.val run_assign rfl rfl ?_
  refine WL.nil ?_
  refine W.seq ?_
  refine W.seq ?_
  refine W.region ?_
  refine WL.val run_move rfl rfl ?_
  refine WL.val (run_eqlSliceNil Try.underlying148 rfl rfl) rfl rfl ?_
  refine WL.nil ?_
  refine W.condB rfl (fun c2 => ?_) (fun c2 => ?_)
  · skip
    refine W.seq ?_
    refine W.region ?_
    refine WL.val run_assign rfl rfl ?_
    refine WL.nil ?_
    refine W.ret ?_
    refine bodyQ.r1 (v := .slice _ _ _) Try.results104 rfl ?_
    -- path T
    have h0 : cap = 0 := hnone (by simpa using c2)
    have ob_ : n = 0 := by omega
    obtain rfl := ob_
    have ob_ : xs = [] := List.eq_nil_of_length_eq_zero (by omega)
    obtain rfl := ob_
    exact ⟨none, 0, rfl, h.ownEmpty 3 none⟩
  · skip
    refine W.skip ?_
    refine W.seq ?_
    refine W.region ?_
    refine WL.eff (eff_mkSlice (zl := []) (out := []) h Try.underlying148 Try.sizeOf96 Try.zeroValue96 (by decide) (by simp) rfl rfl (by simp) (trivial) rfl rfl (by simp [maxLen])) rfl rfl ?_
    rintro _ w ⟨b5, rfl, h⟩
    refine WL.val run_move rfl rfl ?_
    refine WL.eff (eff_app0 (bytes := 40) h rfl rfl (h.readsTo C) Try.underlying148 rfl rfl rfl rfl rfl (by omega) (by omega) h1) rfl rfl ?_
    rintro _ w ⟨a, c, rfl, h⟩
    refine WL.val run_assign rfl rfl ?_
    refine WL.nil ?_
    refine W.ret ?_
    refine bodyQ.r1 (v := .slice _ _ _) Try.results104 rfl ?_
    -- path F
    exact ⟨_, _, rfl, h⟩

theorem scompact_ok {bs b bt br tn k : Nat} {d : Dk} {hd : Hd} {snap sn : List UInt8} {es : List En} {g : Rg} {ax : Option Addr} {cx : Nat} (S : SI d hd tn snap es g) (hk : k ≤ es.length) (hsn : sn.length ≤ 24576) (hbb : hd.base + es.length < 4000000000000000000) (hfi : hd.first + es.length < 4500000000000000000) (htn : tn + 1 < 256 ^ 8) (hlow : d.calls ≤ 900000000) (h : On W0 (StoreP 150 bs b bt br hd snap es :: TwinP 126 bt b 0 tn (headB hd) :: RingP 130 br b g :: DiskP 106 110 b d :: L) w) (C : Gives L (Bytes (.slice ax sn.length cx) sn)) : Calls Try.prog 59 #[.pointer (some ⟨bs, 0, none⟩), .int .u64 ((hd.base + k : Nat) : Int), .slice ax sn.length cx] w (Ret fun v w' => v = .int .i64 0 ∧ On W0 (StoreP 150 bs b bt br (headC hd k sn es) sn (es.drop k) :: TwinP 126 bt b 0 (tn + 1) (headB (headC hd k sn es)) :: RingP 130 br b (trimN g k) :: DiskP 106 110 b (putT (flushD (saveW d (1 - hd.which) sn (secN sn.length))).2 0 tn (headB (headC hd k sn es))).2 :: L) w') := by
  refine enter Try.func59 rfl Try.ntmps59 rfl ?_
  have R_ := S.ri
  have hok := S.hok
  have hok2 := hok
  obtain ⟨ok1, ok2, ok3, ok4, ok5, ok6, ok7⟩ := hok2
  have hmx := maxLen_eq
  have hml : (es.map enB).length = es.length := List.length_map ..
  have hul := len_used (lvs 2 (es.map enB))
  rw [lvs_used] at hul
  have hll : (lvs 2 (es.map enB)).length = es.length := by unfold lvs; rw [List.length_map, hml]
  have hle : es.length ≤ 256 := by have := S.ji.used; omega
  have r3 := R_.first; have r6 := R_.len
  rw [hml] at r6
  have Rt := R_.trim k (by omega)
  have hSC := S.compact (sn := sn) k hk hsn (by omega) (by omega) htn (secN_le hsn) (secN_ge _) rfl
  obtain ⟨SC, hcC⟩ := hSC
  have hSV := S.saved (sn := sn) (secN_le hsn)
  obtain ⟨sv1, sv2, sv3, sv4⟩ := hSV
  have hsK := secN_le hsn
  have ob_ := openSt h
  obtain ⟨a1, c1, a2, c2, ws, pool, hws, hpl, h⟩ := ob_
  refine W.seq ?_
  refine W.region ?_
  refine WL.val run_assign rfl rfl ?_
  refine WL.nil ?_
  refine W.seq ?_
  refine W.block ?_
  refine W.seq ?_
  refine W.region ?_
  refine WL.val run_move rfl rfl ?_
  refine WL.val run_move rfl rfl ?_
  refine WL.val (run_nilCheck rfl) rfl rfl ?_
  refine WL.val (run_fieldAddr 3 Try.underlying150 rfl Try.sizeOf144 rfl rfl) rfl rfl ?_
  refine WL.val (run_fieldAddr 3 Try.underlying144 rfl Try.sizeOf40 rfl rfl) rfl rfl ?_
  refine WL.val (run_load1 Try.isAgg40 rfl (h.cellB rfl)) rfl rfl ?_
  refine WL.val (run_lssF rfl rfl (by omega)) rfl rfl ?_
  refine WL.val run_move rfl rfl ?_
  refine WL.val run_move rfl rfl ?_
  refine WL.val run_move rfl rfl ?_
  refine WL.eff (eff_call Try.call61 (slast_ok (bs := bs) (b := b) (bt := bt) (hd := hd) (vr := .pointer (some ⟨br, 0, none⟩)) (sv := .slice a1 snap.length c1) (a := a2) (n := es.length) (c := c2) (by omega) (by omega) (h.fetch (blk bs [.pointer (some ⟨b, 0, none⟩), .pointer (some ⟨bt, 0, none⟩), .pointer (some ⟨br, 0, none⟩), .int .u64 (hd.epoch : Int), .int .u32 (hd.life : Int), .int .i64 (hd.which : Int), .int .u64 (hd.base : Int), .int .i64 (hd.size : Int), .int .u64 (hd.first : Int), .int .i64 (hd.place : Int), .slice a1 snap.length c1, .slice a2 es.length c2] 150)))) rfl rfl ?_
  rintro _ w ⟨rfl, h⟩
  refine WL.val (run_gtrF rfl rfl (by omega)) rfl rfl ?_
  refine WL.val (run_pickF rfl) rfl rfl ?_
  refine WL.val run_assign rfl rfl ?_
  refine WL.nil ?_
  refine W.condF rfl ?_
  refine W.seq ?_
  refine W.region ?_
  refine WL.val run_move rfl rfl ?_
  refine WL.val (run_lenSlice Try.underlying22 rfl) rfl rfl ?_
  refine WL.val (run_gtrF rfl rfl (by omega)) rfl rfl ?_
  refine WL.val run_assign rfl rfl ?_
  refine WL.nil ?_
  refine W.condF rfl ?_
  refine W.skip ?_
  refine W.seq ?_
  refine W.region ?_
  refine WL.val run_move rfl rfl ?_
  refine WL.val run_move rfl rfl ?_
  refine WL.val run_move rfl rfl ?_
  refine WL.eff (eff_call Try.call103 (ssave_ok (bs := bs) (b := b) (bt := bt) (idx := hd.base + k) (hd := hd) (vr := .pointer (some ⟨br, 0, none⟩)) (sv := .slice a1 snap.length c1) (lv := .slice a2 es.length c2) (d := d) (sn := sn) hok (by omega) hsn S.live S.n (by omega) ((h.fetch (DiskP 106 110 b d)).fetch (blk bs [.pointer (some ⟨b, 0, none⟩), .pointer (some ⟨bt, 0, none⟩), .pointer (some ⟨br, 0, none⟩), .int .u64 (hd.epoch : Int), .int .u32 (hd.life : Int), .int .i64 (hd.which : Int), .int .u64 (hd.base : Int), .int .i64 (hd.size : Int), .int .u64 (hd.first : Int), .int .i64 (hd.place : Int), .slice a1 snap.length c1, .slice a2 es.length c2] 150)) (Gives.to C))) rfl rfl ?_
  rintro _ w ⟨rfl, h⟩
  refine WL.val run_move rfl rfl ?_
  refine WL.val (run_extract rfl rfl) rfl rfl ?_
  refine WL.val (run_extract rfl rfl) rfl rfl ?_
  refine WL.eff (eff_alloc h Try.zeroValue144 rfl) rfl rfl ?_
  rintro _ w ⟨b7, rfl, h⟩
  refine WL.eff (eff_storeN (vs := [.int .u64 _, .int .u32 _, .int .i64 _, .int .u64 _, .int .i64 _, .int .u64 _, .int .i64 _]) h Try.sizeOf144 rfl rfl rfl rfl rfl (fun k _ _ => free0 k)) rfl rfl ?_
  rintro _ w h
  try simp only [splice, List.take_zero, List.take_succ_cons, List.take_nil, List.drop_succ_cons, List.drop_zero, List.drop_nil, List.nil_append, List.cons_append, List.append_nil, List.length_cons, List.length_nil, Nat.zero_add, Nat.reduceAdd] at h
  refine WL.val run_assign rfl rfl ?_
  refine WL.nil ?_
  refine W.seq ?_
  refine W.seq ?_
  refine W.region ?_
  refine WL.val run_move rfl rfl ?_
  refine WL.val (run_neqF rfl rfl (rfl)) rfl rfl ?_
  refine WL.nil ?_
  refine W.condF rfl ?_
  refine W.skip ?_
  refine W.seq ?_
  refine W.region ?_
  refine WL.val run_move rfl rfl ?_
  refine WL.val run_move rfl rfl ?_
  refine WL.val (run_nilCheck rfl) rfl rfl ?_
  refine WL.val (run_fieldAddr 3 Try.underlying150 rfl Try.sizeOf144 rfl rfl) rfl rfl ?_
  refine WL.val (run_fieldAddr 3 Try.underlying144 rfl Try.sizeOf40 rfl rfl) rfl rfl ?_
  refine WL.val (run_load1 Try.isAgg40 rfl (h.cellB rfl)) rfl rfl ?_
  refine WL.val (run_subKV (k := .u64) (m := hd.base + k) (n := hd.base) (r := k) rfl rfl (by omega) (Int.ofNat_le.2 (show _ ≤ 18446744073709551615 by omega)) (by omega)) rfl rfl ?_
  refine WL.val run_assign rfl rfl ?_
  refine WL.nil ?_
  refine W.seq ?_
  refine W.draw Try.follows h (fun w h => ?_)
  refine WT.pure 0 rfl (by kernel_rfl) (fun w' => run_move) rfl rfl ?_
  refine WT.pure 1 rfl (by kernel_rfl) (fun w' => (run_nilCheck rfl)) rfl rfl ?_
  refine WT.pure 2 rfl (by kernel_rfl) (fun w' => (run_fieldAddr 2 Try.underlying150 rfl Try.sizeOf56 rfl rfl)) rfl rfl ?_
  refine WT.load1 3 rfl (by kernel_rfl) Try.isAgg56 rfl (h.cellB rfl) rfl rfl ?_
  refine WT.pure 4 rfl (by kernel_rfl) (fun w' => run_move) rfl rfl ?_
  refine WT.pure 5 rfl (by kernel_rfl) (fun w' => (run_nilCheck rfl)) rfl rfl ?_
  refine WT.pure 6 rfl (by kernel_rfl) (fun w' => (run_fieldAddr 3 Try.underlying150 rfl Try.sizeOf144 rfl rfl)) rfl rfl ?_
  refine WT.pure 7 rfl (by kernel_rfl) (fun w' => (run_fieldAddr 5 Try.underlying144 rfl Try.sizeOf40 rfl rfl)) rfl rfl ?_
  refine WT.load1 8 rfl (by kernel_rfl) Try.isAgg40 rfl (h.cellB rfl) rfl rfl ?_
  refine WT.pure 9 rfl (by kernel_rfl) (fun w' => run_move) rfl rfl ?_
  refine WT.pure 10 rfl (by kernel_rfl) (fun w' => (run_addK (k := .u64) (m := hd.first) (n := k) rfl rfl (Int.ofNat_le.2 (show _ ≤ 18446744073709551615 by omega)))) rfl rfl ?_
  refine WT.eff 11 [false, false] rfl (by kernel_rfl) (by kernel_rfl) (eff_call Try.call42 (rtrim_at (br := br) (b := b) (g := g) (k := k) (f := hd.first) r3 (by omega) (h.fetch (RingP 130 br b g)))) rfl rfl ?_
  rintro _ w ⟨rfl, h⟩
  refine ⟨trivial, ?_⟩
  refine WT.done (by kernel_rfl) ?_
  refine W.seq ?_
  refine W.region ?_
  refine WL.val run_move rfl rfl ?_
  refine WL.val (run_nilCheck rfl) rfl rfl ?_
  refine WL.val (run_fieldAddr 2 Try.underlying150 rfl Try.sizeOf56 rfl rfl) rfl rfl ?_
  refine WL.val (run_load1 Try.isAgg56 rfl (h.cellB rfl)) rfl rfl ?_
  refine WL.eff (eff_call Try.call41 (rfirst_at (br := br) (b := b) (g := (trimN g k)) (f := hd.first + k) (p := (hd.place + usedB ((es.map enB).take k)) % 256) Rt.first (Rt.where0 (Nat.mod_lt _ (by decide))) (h.fetch (RingP 130 br b (trimN g k))))) rfl rfl ?_
  rintro _ w ⟨rfl, h⟩
  refine WL.val run_move rfl rfl ?_
  refine WL.val (run_extract rfl rfl) rfl rfl ?_
  refine WL.val (run_extract rfl rfl) rfl rfl ?_
  refine WL.val (run_fieldAddr 5 Try.underlying144 rfl Try.sizeOf40 rfl rfl) rfl rfl ?_
  refine WL.eff (eff_store (v := .int .u64 _) h Try.sizeOf40 rfl rfl rfl rfl rfl) rfl rfl ?_
  rintro _ w h
  try simp only [Nat.zero_add, Nat.add_zero, List.set_cons_zero, List.set_cons_succ] at h
  refine WL.val (run_fieldAddr 6 Try.underlying144 rfl Try.sizeOf3 rfl rfl) rfl rfl ?_
  refine WL.eff (eff_store (v := .int .i64 _) h Try.sizeOf3 rfl rfl rfl rfl rfl) rfl rfl ?_
  rintro _ w h
  try simp only [Nat.zero_add, Nat.add_zero, List.set_cons_zero, List.set_cons_succ] at h
  refine WL.nil ?_
  refine W.seq ?_
  refine W.seq ?_
  refine W.region ?_
  refine WL.val run_move rfl rfl ?_
  refine WL.val (run_loadB (vs := [.int .u64 _, .int .u32 _, .int .i64 _, .int .u64 _, .int .i64 _, .int .u64 _, .int .i64 _]) h Try.isAgg144 Try.sizeOf144 rfl rfl rfl) rfl rfl ?_
  refine WL.eff (eff_call Try.call101 (sput_ok (bs := bs) (b := b) (bt := bt) (tn := tn) (hd := hd) (nh := (headC hd k sn es)) (vr := .pointer (some ⟨br, 0, none⟩)) (sv := .slice a1 snap.length c1) (lv := .slice a2 es.length c2) (d := (flushD (saveW d (1 - hd.which) sn (secN sn.length))).2) (val := headB hd) SC.hok sv4 htn (by omega) (((h.fetch (DiskP 106 110 b (flushD (saveW d (1 - hd.which) sn (secN sn.length))).2)).fetch (TwinP 126 bt b 0 tn (headB hd))).fetch (blk bs [.pointer (some ⟨b, 0, none⟩), .pointer (some ⟨bt, 0, none⟩), .pointer (some ⟨br, 0, none⟩), .int .u64 (hd.epoch : Int), .int .u32 (hd.life : Int), .int .i64 (hd.which : Int), .int .u64 (hd.base : Int), .int .i64 (hd.size : Int), .int .u64 (hd.first : Int), .int .i64 (hd.place : Int), .slice a1 snap.length c1, .slice a2 es.length c2] 150)))) rfl rfl ?_
  rintro _ w ⟨rfl, h⟩
  refine WL.val run_assign rfl rfl ?_
  refine WL.nil ?_
  refine W.seq ?_
  refine W.region ?_
  refine WL.val run_move rfl rfl ?_
  refine WL.val (run_neqF rfl rfl (rfl)) rfl rfl ?_
  refine WL.nil ?_
  refine W.condF rfl ?_
  refine W.skip ?_
  refine W.seq ?_
  refine W.draw Try.follows h (fun w h => ?_)
  refine WT.pure 0 rfl (by kernel_rfl) (fun w' => run_move) rfl rfl ?_
  refine WT.pure 1 rfl (by kernel_rfl) (fun w' => run_move) rfl rfl ?_
  refine WT.pure 2 rfl (by kernel_rfl) (fun w' => run_move) rfl rfl ?_
  refine WT.pure 4 rfl (by kernel_rfl) (fun w' => run_move) rfl rfl ?_
  refine WT.pure 5 rfl (by kernel_rfl) (fun w' => (run_nilCheck rfl)) rfl rfl ?_
  refine WT.pure 6 rfl (by kernel_rfl) (fun w' => (run_fieldAddr 11 Try.underlying150 rfl Try.sizeOf148 rfl rfl)) rfl rfl ?_
  refine WT.load1 7 rfl (by kernel_rfl) Try.isAgg148 rfl (h.cellB rfl) rfl rfl ?_
  refine WT.pure 8 rfl (by kernel_rfl) (fun w' => run_move) rfl rfl ?_
  refine WT.pure 9 rfl (by kernel_rfl) (fun w' => (run_cutLV (l := k) Try.underlying148 Try.sizeOf96 rfl rfl hk rfl)) rfl rfl ?_
  refine WT.eff 3 [true] rfl (by kernel_rfl) (by kernel_rfl) (eff_call Try.call68 (clone_bytes h (Gives.to C) (by omega))) rfl rfl ?_
  rintro _ w ⟨a77, c77, rfl, h⟩
  have hob := (h.cellsO (v := .slice a2 es.length c2)).bounds
  have hgc : Gives [Own 3 (.slice a2 es.length c2) es.length (ws.flatMap EX.row)] (Cells 3 (.slice (if c2 = k then a2 else a2.map (·.add (k * 3))) (es.length - k) (c2 - k)) (es.length - k) ((ws.flatMap EX.row).drop (k * 3))) := fun hh H => by
    have cc := (Gives.own (L := []) hh H).cut (l := k) (h := es.length) (m := c2) hk (Nat.le_refl _) hob.1 (Nat.le_refl _)
    have hfl : (ws.flatMap EX.row).length = es.length * 3 := (Gives.own (L := []) hh H).1
    rw [List.take_of_length_le (by rw [List.length_drop, hfl]; omega)] at cc
    exact cc
  have hpd := ens_drop hws hpl k
  obtain ⟨q1, q2, q3⟩ := hpd
  rw [q3] at hgc
  refine ⟨⟨h.cellB rfl, trivial⟩, ?_⟩
  refine WT.eff 10 [false] rfl (by kernel_rfl) (by kernel_rfl) (eff_call Try.call104 (clone_ents h (Gives.to hgc) (by omega) (fun u hu => q2.one u hu))) rfl rfl ?_
  rintro _ w ⟨a84, c84, rfl, h⟩
  refine ⟨trivial, ?_⟩
  refine WT.pure 11 rfl (by kernel_rfl) (fun w' => (run_nilCheck rfl)) rfl rfl ?_
  refine WT.pure 12 rfl (by kernel_rfl) (fun w' => (run_fieldAddr 10 Try.underlying150 rfl Try.sizeOf22 rfl rfl)) rfl rfl ?_
  refine WT.eff 13 [] rfl (by kernel_rfl) (by kernel_rfl) (eff_store (v := .slice _ _ _) h Try.sizeOf22 rfl rfl rfl rfl rfl) rfl rfl ?_
  rintro _ w h
  try simp only [Nat.zero_add, Nat.add_zero, List.set_cons_zero, List.set_cons_succ] at h
  refine ⟨trivial, ?_⟩
  refine WT.pure 14 rfl (by kernel_rfl) (fun w' => (run_nilCheck rfl)) rfl rfl ?_
  refine WT.pure 15 rfl (by kernel_rfl) (fun w' => (run_fieldAddr 11 Try.underlying150 rfl Try.sizeOf148 rfl rfl)) rfl rfl ?_
  refine WT.eff 16 [] rfl (by kernel_rfl) (by kernel_rfl) (eff_store (v := .slice _ _ _) h Try.sizeOf148 rfl rfl rfl rfl rfl) rfl rfl ?_
  rintro _ w h
  try simp only [Nat.zero_add, Nat.add_zero, List.set_cons_zero, List.set_cons_succ] at h
  refine ⟨trivial, ?_⟩
  refine WT.done (by kernel_rfl) ?_
  refine W.seq ?_
  refine W.region ?_
  refine WL.val run_assign rfl rfl ?_
  refine WL.nil ?_
  refine W.ret ?_
  refine bodyQ.r1 (v := .int .i64 _) Try.results59 rfl ?_
  -- path 
  have hdl : (es.drop k).length = es.length - k := List.length_drop ..
  exact ⟨rfl, closeSt (a1 := a77) (c1 := c77) (a2 := a84) (c2 := c84) (ws := ws.drop k) (pool := pool) q1 q2 (by rw [hdl]; exact h.to)⟩

end Go.Proofs.Ytlahgihjjabgmaa
