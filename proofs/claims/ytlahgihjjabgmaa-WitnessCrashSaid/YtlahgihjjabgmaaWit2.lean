/-
  The laws of a register on a disk. Lines of walks printed by a program of the prover's.
-/
import Derived.Test.YtlahgihjjabgmaaWit
namespace Go.Proofs.Ytlahgihjjabgmaa
open Go Go.Sl Go.Sl.ByM Go.Sl.DkM Go.Sl.TwM Go.Sl.WtM
set_option linter.unusedVariables false
set_option linter.unusedSimpArgs false
set_option maxHeartbeats 1000000
set_option maxRecDepth 8000
variable {W0 w : World} {L F : List HProp}

theorem wformat_found {b e p m : Nat} {d : Dk} (hr : RightW (p : Int) (m : Int)) (he : e < 18446744073709551616) (hl : Live d) (hi : inT d 0) (hlow : d.lowK 3) (hn : 0 ≤ d.n) (h : On W0 (DiskP 106 110 b d :: L) w) : Calls Try.prog 47 #[.pointer (some ⟨b, 0, none⟩), .agg #[.int .u64 (e : Int), .int .i64 (p : Int), .int .i64 (m : Int)]] w (Ret fun v w' => v = .int .i64 0 ∧ ∃ d', TwI d' 0 1 (encW e p m) ∧ d'.n = d.n ∧ d'.calls = d.calls + 3 ∧ On W0 (DiskP 106 110 b d' :: L) w') := (wformat_ok hr he hlow hn h).mono fun e_ w' he => by
  obtain ⟨v, he, hv⟩ := he
  refine ⟨v, he, ?_⟩
  obtain ⟨hv, h⟩ := hv
  have hv1 : (encW e p m).length ≤ 488 := by rw [encW_length]; decide
  obtain ⟨e1, _, e2, e3, _⟩ := format_live hl hi hv1
  rw [e1] at hv
  exact ⟨hv, _, TwI.format hl hi hv1, e2, e3, h⟩

theorem cas_found {bw bt b : Nat} {e p m x e2 p2 m2 n : Nat} {d : Dk} (hx : x + 1 < 18446744073709551616) (hm : (e = x ∧ RightW (p2 : Int) (m2 : Int) ∧ e2 = x + 1)) (I : TwI d 0 n (encW e p m)) (hlow : d.lowK 2) (hnb : n + 1 < 256 ^ 8) (h : On W0 (blk bw [.pointer (some ⟨bt, 0, none⟩), .int .u64 (e : Int), .int .i64 (p : Int), .int .i64 (m : Int)] 140 :: TwinP 126 bt b 0 n (encW e p m) :: DiskP 106 110 b d :: L) w) : Calls Try.prog 49 #[.pointer (some ⟨bw, 0, none⟩), .int .u64 (x : Int), .agg #[.int .u64 (e2 : Int), .int .i64 (p2 : Int), .int .i64 (m2 : Int)]] w (Ret fun v w' => v = .tuple #[.agg #[.int .u64 (e2 : Int), .int .i64 (p2 : Int), .int .i64 (m2 : Int)], .bool true, .int .i64 0] ∧ ∃ d', TwI d' 0 (n + 1) (encW e2 p2 m2) ∧ d'.n = d.n ∧ d'.calls = d.calls + 2 ∧ On W0 (blk bw [.pointer (some ⟨bt, 0, none⟩), .int .u64 (e2 : Int), .int .i64 (p2 : Int), .int .i64 (m2 : Int)] 140 :: TwinP 126 bt b 0 (n + 1) (encW e2 p2 m2) :: DiskP 106 110 b d' :: L) w') := (cas_ok hx hm hlow hnb h).mono fun e_ w' he => by
  obtain ⟨v, he, hv⟩ := he
  refine ⟨v, he, ?_⟩
  have hv1 : (encW e2 p2 m2).length ≤ 488 := by rw [encW_length]; decide
  obtain ⟨e1, _, e2, e3, _⟩ := put_live (number := n) I.live I.at_in hv1
  rcases hv with ⟨_, hv, h⟩ | ⟨hno, _, _⟩
  · exact ⟨hv, _, I.put hnb hv1, e2, e3, h⟩
  · exact absurd e1 hno

theorem wopen_found {b e p m n : Nat} {d : Dk} (I : TwI d 0 n (encW e p m)) (hr : RightW (p : Int) (m : Int)) (he : e < 18446744073709551616) (hn : 0 ≤ d.n) (h : On W0 (DiskP 106 110 b d :: L) w) : Calls Try.prog 48 #[.pointer (some ⟨b, 0, none⟩)] w (Ret fun v w' => ∃ bw bt, v = .tuple #[.pointer (some ⟨bw, 0, none⟩), .int .i64 0] ∧ On W0 (blk bw [.pointer (some ⟨bt, 0, none⟩), .int .u64 (e : Int), .int .i64 (p : Int), .int .i64 (m : Int)] 140 :: TwinP 126 bt b 0 n (encW e p m) :: DiskP 106 110 b d :: L) w') := (wopen_ok I.opens hr he hn h).mono fun e_ w' he => by
  obtain ⟨v, he, hv⟩ := he
  refine ⟨v, he, ?_⟩
  exact hv

theorem cas_any {bw bt b : Nat} {e p m x e2 p2 m2 n : Nat} {d : Dk} (hx : x + 1 < 18446744073709551616) (I : TwI d 0 n (encW e p m)) (hlow : d.lowK 2) (hnb : n + 1 < 256 ^ 8) (h : On W0 (blk bw [.pointer (some ⟨bt, 0, none⟩), .int .u64 (e : Int), .int .i64 (p : Int), .int .i64 (m : Int)] 140 :: TwinP 126 bt b 0 n (encW e p m) :: DiskP 106 110 b d :: L) w) : Calls Try.prog 49 #[.pointer (some ⟨bw, 0, none⟩), .int .u64 (x : Int), .agg #[.int .u64 (e2 : Int), .int .i64 (p2 : Int), .int .i64 (m2 : Int)]] w (Ret fun v w' => ((e = x ∧ RightW (p2 : Int) (m2 : Int) ∧ e2 = x + 1) ∧ v = .tuple #[.agg #[.int .u64 (e2 : Int), .int .i64 (p2 : Int), .int .i64 (m2 : Int)], .bool true, .int .i64 0] ∧ ∃ d', TwI d' 0 (n + 1) (encW e2 p2 m2) ∧ d'.n = d.n ∧ d'.calls = d.calls + 2 ∧ On W0 (blk bw [.pointer (some ⟨bt, 0, none⟩), .int .u64 (e2 : Int), .int .i64 (p2 : Int), .int .i64 (m2 : Int)] 140 :: TwinP 126 bt b 0 (n + 1) (encW e2 p2 m2) :: DiskP 106 110 b d' :: L) w') ∨ (¬ (e = x ∧ RightW (p2 : Int) (m2 : Int) ∧ e2 = x + 1) ∧ v = .tuple #[.agg #[.int .u64 (e : Int), .int .i64 (p : Int), .int .i64 (m : Int)], .bool false, .int .i64 0] ∧ On W0 (blk bw [.pointer (some ⟨bt, 0, none⟩), .int .u64 (e : Int), .int .i64 (p : Int), .int .i64 (m : Int)] 140 :: TwinP 126 bt b 0 n (encW e p m) :: DiskP 106 110 b d :: L) w')) := by
  by_cases hm : (e = x ∧ RightW (p2 : Int) (m2 : Int) ∧ e2 = x + 1)
  · refine (cas_found hx hm I hlow hnb h).mono fun e_ w' he => ?_
    obtain ⟨v, he, hv⟩ := he
    exact ⟨v, he, .inl ⟨hm, hv⟩⟩
  · refine (cas_no hx hm h).mono fun e_ w' he => ?_
    obtain ⟨v, he, hv⟩ := he
    exact ⟨v, he, .inr ⟨hm, hv⟩⟩

theorem wknown_ok (h : On W0 F w) : Calls Try.prog 43 #[] w (Ret fun v w' => v = .bool true ∧ On W0 F w') := by
  refine enter Try.func43 rfl Try.ntmps43 rfl ?_
  refine W.seq ?_
  refine W.region ?_
  refine WL.val run_assign rfl rfl ?_
  refine WL.nil ?_
  refine W.seq ?_
  refine W.region ?_
  refine WL.eff (eff_call Try.call16 (new_ok h)) rfl rfl ?_
  rintro _ w hv
  rcases hv with ⟨_, _, b, rfl, h⟩ | ⟨hno, _, _⟩
  rotate_left
  · exact absurd ⟨by decide, by decide⟩ hno
  refine WL.val run_move rfl rfl ?_
  refine WL.val (run_extract rfl rfl) rfl rfl ?_
  refine WL.val (run_extract rfl rfl) rfl rfl ?_
  refine WL.val run_assign rfl rfl ?_
  refine WL.val run_assign rfl rfl ?_
  refine WL.nil ?_
  refine W.seq ?_
  refine W.region ?_
  refine WL.val run_move rfl rfl ?_
  refine WL.val (run_buildS (pl := [(0, 1), (1, 1), (2, 1)]) (out := [.int .u64 _, .int .i64 _, .int .i64 _]) Try.underlying73 Try.zeroValue73 (fun w => by kernel_rfl) rfl (⟨⟨_, _, rfl, rfl, by decide⟩, ⟨⟨_, _, rfl, rfl, by decide⟩, ⟨⟨_, _, rfl, rfl, by decide⟩, trivial⟩⟩⟩) rfl) rfl rfl ?_
  refine WL.eff (eff_call Try.call47 (wformat_found (d := newD 2) (e := 1) (p := 0) (m := 3) (by decide) (by decide) (newLive 2) ⟨by decide, by decide⟩ ⟨by decide, by decide⟩ (by decide) (h.fetch (DiskP 106 110 b (newD 2))))) rfl rfl ?_
  rintro _ w ⟨rfl, d1, I1, hn1, hc1, h⟩
  have hn1 : d1.n = 2 := hn1
  have hc1 : d1.calls = 3 := hc1
  refine WL.val run_assign rfl rfl ?_
  refine WL.nil ?_
  refine W.seq ?_
  refine W.region ?_
  refine WL.val run_move rfl rfl ?_
  refine WL.eff (eff_call Try.call48 (wopen_found (e := 1) (p := 0) (m := 3) I1 (by decide) (by decide) (by omega) h)) rfl rfl ?_
  rintro _ w ⟨bw, bt, rfl, h⟩
  refine WL.val run_move rfl rfl ?_
  refine WL.val (run_extract rfl rfl) rfl rfl ?_
  refine WL.val (run_extract rfl rfl) rfl rfl ?_
  refine WL.val run_assign rfl rfl ?_
  refine WL.val run_assign rfl rfl ?_
  refine WL.nil ?_
  refine W.seq ?_
  refine W.seq ?_
  refine W.region ?_
  refine WL.val run_move rfl rfl ?_
  refine WL.val run_move rfl rfl ?_
  refine WL.val (run_add rfl rfl (by omega) (by omega)) rfl rfl ?_
  refine WL.val (run_neqF rfl rfl (rfl)) rfl rfl ?_
  refine WL.val run_move rfl rfl ?_
  refine WL.val run_move rfl rfl ?_
  refine WL.val (run_eqlPtrNil Try.underlying80 rfl rfl) rfl rfl ?_
  refine WL.val (run_pickF rfl) rfl rfl ?_
  refine WL.nil ?_
  refine W.condF rfl ?_
  refine W.skip ?_
  refine W.seq ?_
  refine W.region ?_
  refine WL.val run_move rfl rfl ?_
  refine WL.val (run_buildS (pl := [(0, 1), (1, 1), (2, 1)]) (out := [.int .u64 _, .int .i64 _, .int .i64 _]) Try.underlying73 Try.zeroValue73 (fun w => by kernel_rfl) rfl (⟨⟨_, _, rfl, rfl, by decide⟩, ⟨⟨_, _, rfl, rfl, by decide⟩, ⟨⟨_, _, rfl, rfl, by decide⟩, trivial⟩⟩⟩) rfl) rfl rfl ?_
  refine WL.eff (eff_call Try.call49 (cas_found (x := 1) (e := 1) (p := 0) (m := 3) (e2 := 2) (p2 := 1) (m2 := 2) (by decide) ⟨rfl, by decide, rfl⟩ I1 ⟨by omega, by rw [I1.live.armed]; decide⟩ (by decide) h)) rfl rfl ?_
  rintro _ w ⟨rfl, d2, I2, hn2, hc2, h⟩
  refine WL.val run_move rfl rfl ?_
  refine WL.val (run_extract rfl rfl) rfl rfl ?_
  refine WL.val (run_extract rfl rfl) rfl rfl ?_
  refine WL.val (run_extract rfl rfl) rfl rfl ?_
  refine WL.eff (eff_alloc h Try.zeroValue73 rfl) rfl rfl ?_
  rintro _ w ⟨b6, rfl, h⟩
  refine WL.eff (eff_storeN (vs := [.int .u64 _, .int .i64 _, .int .i64 _]) h Try.sizeOf73 rfl rfl rfl rfl rfl (fun k _ _ => free0 k)) rfl rfl ?_
  rintro _ w h
  try simp only [splice, List.take_zero, List.take_succ_cons, List.take_nil, List.drop_succ_cons, List.drop_zero, List.drop_nil, List.nil_append, List.cons_append, List.append_nil, List.length_cons, List.length_nil, Nat.zero_add, Nat.reduceAdd] at h
  refine WL.val run_assign rfl rfl ?_
  refine WL.val run_assign rfl rfl ?_
  refine WL.nil ?_
  refine W.seq ?_
  refine W.region ?_
  refine WL.val run_move rfl rfl ?_
  refine WL.val (run_buildS (pl := [(0, 1), (1, 1), (2, 1)]) (out := [.int .u64 _, .int .i64 _, .int .i64 _]) Try.underlying73 Try.zeroValue73 (fun w => by kernel_rfl) rfl (⟨⟨_, _, rfl, rfl, by decide⟩, ⟨⟨_, _, rfl, rfl, by decide⟩, ⟨⟨_, _, rfl, rfl, by decide⟩, trivial⟩⟩⟩) rfl) rfl rfl ?_
  refine WL.eff (eff_call Try.call49 (cas_no (bw := bw) (bt := bt) (x := 1) (e := 2) (p := 1) (m := 2) (e2 := 2) (p2 := 0) (m2 := 1) (by decide) (fun hh => absurd hh.1 (by decide)) (h.fetch (blk bw [.pointer (some ⟨bt, 0, none⟩), .int .u64 ((2 : Nat) : Int), .int .i64 ((1 : Nat) : Int), .int .i64 ((2 : Nat) : Int)] 140)))) rfl rfl ?_
  rintro _ w ⟨rfl, h⟩
  refine WL.val run_move rfl rfl ?_
  refine WL.val (run_extract rfl rfl) rfl rfl ?_
  refine WL.val (run_extract rfl rfl) rfl rfl ?_
  refine WL.val (run_extract rfl rfl) rfl rfl ?_
  refine WL.eff (eff_alloc h Try.zeroValue73 rfl) rfl rfl ?_
  rintro _ w ⟨b9, rfl, h⟩
  refine WL.eff (eff_storeN (vs := [.int .u64 _, .int .i64 _, .int .i64 _]) h Try.sizeOf73 rfl rfl rfl rfl rfl (fun k _ _ => free0 k)) rfl rfl ?_
  rintro _ w h
  try simp only [splice, List.take_zero, List.take_succ_cons, List.take_nil, List.drop_succ_cons, List.drop_zero, List.drop_nil, List.nil_append, List.cons_append, List.append_nil, List.length_cons, List.length_nil, Nat.zero_add, Nat.reduceAdd] at h
  refine WL.val run_assign rfl rfl ?_
  refine WL.val run_assign rfl rfl ?_
  refine WL.nil ?_
  refine W.seq ?_
  refine W.draw Try.follows h (fun w h => ?_)
  refine WT.pure 0 rfl (by kernel_rfl) (fun w' => run_move) rfl rfl ?_
  refine WT.pure 1 rfl (by kernel_rfl) (fun w' => run_move) rfl rfl ?_
  refine WT.pure 2 rfl (by kernel_rfl) (fun w' => run_move) rfl rfl ?_
  refine WT.pure 3 rfl (by kernel_rfl) (fun w' => (run_not rfl)) rfl rfl ?_
  refine WT.pure 4 rfl (by kernel_rfl) (fun w' => (run_pickT rfl)) rfl rfl ?_
  refine WT.pure 5 rfl (by kernel_rfl) (fun w' => run_move) rfl rfl ?_
  refine WT.pure 6 rfl (by kernel_rfl) (fun w' => run_move) rfl rfl ?_
  refine WT.pure 7 rfl (by kernel_rfl) (fun w' => run_move) rfl rfl ?_
  refine WT.pure 8 rfl (by kernel_rfl) (fun w' => (run_add rfl rfl (by omega) (by omega))) rfl rfl ?_
  refine WT.pure 9 rfl (by kernel_rfl) (fun w' => run_eqlT rfl rfl (rfl)) rfl rfl ?_
  refine WT.pure 10 rfl (by kernel_rfl) (fun w' => (run_pickT rfl)) rfl rfl ?_
  refine WT.pure 11 rfl (by kernel_rfl) (fun w' => run_move) rfl rfl ?_
  refine WT.pure 12 rfl (by kernel_rfl) (fun w' => (run_fieldAddr 0 Try.underlying73 rfl Try.sizeOf40 rfl rfl)) rfl rfl ?_
  refine WT.load1 13 rfl (by kernel_rfl) Try.isAgg40 rfl (h.cellB rfl) rfl rfl ?_
  refine WT.pure 14 rfl (by kernel_rfl) (fun w' => run_eqlT rfl rfl (rfl)) rfl rfl ?_
  refine WT.pure 15 rfl (by kernel_rfl) (fun w' => (run_pickT rfl)) rfl rfl ?_
  refine WT.pure 16 rfl (by kernel_rfl) (fun w' => run_move) rfl rfl ?_
  refine WT.pure 17 rfl (by kernel_rfl) (fun w' => (run_fieldAddr 1 Try.underlying73 rfl Try.sizeOf3 rfl rfl)) rfl rfl ?_
  refine WT.load1 18 rfl (by kernel_rfl) Try.isAgg3 rfl (h.cellB rfl) rfl rfl ?_
  refine WT.pure 19 rfl (by kernel_rfl) (fun w' => run_eqlT rfl rfl (rfl)) rfl rfl ?_
  refine WT.pure 20 rfl (by kernel_rfl) (fun w' => (run_pickT rfl)) rfl rfl ?_
  refine WT.pure 21 rfl (by kernel_rfl) (fun w' => run_move) rfl rfl ?_
  refine WT.pure 22 rfl (by kernel_rfl) (fun w' => run_move) rfl rfl ?_
  refine WT.loadN (vs := [.int .u64 _, .int .i64 _, .int .i64 _]) 24 rfl (by kernel_rfl) Try.isAgg73 Try.sizeOf73 rfl rfl (h.rowV (n := 3) rfl) rfl rfl ?_
  refine WT.eff 23 [true, false, false] rfl (by kernel_rfl) (by kernel_rfl) (eff_call Try.call51 (wget_ok (bw := bw) (bt := bt) (e := 2) (p := 1) (m := 2) (h.fetch (blk bw [.pointer (some ⟨bt, 0, none⟩), .int .u64 ((2 : Nat) : Int), .int .i64 ((1 : Nat) : Int), .int .i64 ((2 : Nat) : Int)] 140)))) rfl rfl ?_
  rintro _ w ⟨rfl, h⟩
  refine ⟨⟨(h.rowV (n := 3) rfl), trivial⟩, ?_⟩
  refine WT.pure 25 rfl (by kernel_rfl) (fun w' => (val_true (run_eqlI3 Try.underlying73 (by decide) (by decide) (by decide) rfl rfl rfl Try.underlying40 Try.underlying3 Try.underlying3 Try.isAgg40 Try.isAgg3 Try.isAgg3 (by kernel_rfl) (by kernel_rfl) rfl rfl) (⟨rfl, rfl, rfl⟩))) rfl rfl ?_
  refine WT.pure 26 rfl (by kernel_rfl) (fun w' => (run_pickT rfl)) rfl rfl ?_
  refine WT.pure 27 rfl (by kernel_rfl) (fun w' => run_move) rfl rfl ?_
  refine WT.pure 28 rfl (by kernel_rfl) (fun w' => (run_buildS (pl := [(0, 1), (1, 1), (2, 1)]) (out := [.int .u64 _, .int .i64 _, .int .i64 _]) Try.underlying73 Try.zeroValue73 (fun w => by kernel_rfl) rfl (⟨⟨_, _, rfl, rfl, by decide⟩, ⟨⟨_, _, rfl, rfl, by decide⟩, ⟨⟨_, _, rfl, rfl, by decide⟩, trivial⟩⟩⟩) rfl)) rfl rfl ?_
  refine WT.eff 29 [false] rfl (by kernel_rfl) (by kernel_rfl) (eff_call Try.call50 (right_ok (e := 2) (p := 1) (m := 1) h)) rfl rfl ?_
  rintro v0 w ⟨hv0, h⟩
  rw [decide_eq_false (show ¬ RightW 1 1 from by decide)] at hv0
  subst hv0
  refine ⟨trivial, ?_⟩
  refine WT.pure 30 rfl (by kernel_rfl) (fun w' => (run_not rfl)) rfl rfl ?_
  refine WT.pure 31 rfl (by kernel_rfl) (fun w' => (run_pickT rfl)) rfl rfl ?_
  refine WT.pure 32 rfl (by kernel_rfl) (fun w' => run_assign) rfl rfl ?_
  refine WT.done (by kernel_rfl) ?_
  refine W.ret ?_
  refine bodyQ.r1 (v := .bool _) Try.results43 rfl ?_
  -- path 
  exact ⟨rfl, h.to⟩

theorem wbytes_ok {ax : Option Addr} {cx e : Nat} {p m : Int} {s : List UInt8} (he : e < 18446744073709551616) (h : On W0 F w) (C : Gives F (Bytes (.slice ax s.length cx) s)) : Calls Try.prog 10 #[.agg #[.int .u64 (e : Int), .int .i64 p, .int .i64 m], .slice ax s.length cx] w (Ret fun v w' => v = .bool true ∧ On W0 F w') := by
  refine enter Try.func10 rfl Try.ntmps10 rfl ?_
  refine W.seq ?_
  refine W.region ?_
  refine WL.eff (eff_box (v := .agg _) (l := [.int .u64 _, .int .i64 _, .int .i64 _]) h rfl rfl) rfl rfl ?_
  rintro _ w ⟨b2, rfl, h⟩
  refine WL.val run_assign rfl rfl ?_
  refine WL.nil ?_
  refine W.seq ?_
  refine W.seq ?_
  refine W.region ?_
  refine WL.eff (eff_call Try.call43 (wknown_ok h)) rfl rfl ?_
  rintro _ w ⟨rfl, h⟩
  refine WL.val (run_not rfl) rfl rfl ?_
  refine WL.nil ?_
  refine W.condF rfl ?_
  refine W.skip ?_
  refine W.seq ?_
  refine W.seq ?_
  refine W.region ?_
  refine WL.val run_move rfl rfl ?_
  refine WL.val (run_lenSlice Try.underlying22 rfl) rfl rfl ?_
  refine WL.val (run_gtr rfl rfl) rfl rfl ?_
  refine WL.nil ?_
  refine W.condIf rfl (fun c7 => ?_) (fun c7 => ?_)
  · skip
    refine W.seq ?_
    refine W.region ?_
    refine WL.val run_assign rfl rfl ?_
    refine WL.nil ?_
    refine W.ret ?_
    refine bodyQ.r1 (v := .bool _) Try.results10 rfl ?_
    -- path T
    exact ⟨rfl, h.to⟩
  · skip
    refine W.skip ?_
    refine W.seq ?_
    refine W.region ?_
    refine WL.val run_move rfl rfl ?_
    refine WL.eff (eff_call Try.call44 (decode_ok h (Gives.to C))) rfl rfl ?_
    rintro _ w hg
    rcases hg with ⟨hok, rfl, h⟩ | ⟨hno, rfl, h⟩
    · skip
      refine WL.val run_move rfl rfl ?_
      refine WL.val (run_extract rfl rfl) rfl rfl ?_
      refine WL.val (run_extract rfl rfl) rfl rfl ?_
      refine WL.eff (eff_alloc h Try.zeroValue73 rfl) rfl rfl ?_
      rintro _ w ⟨b5, rfl, h⟩
      refine WL.eff (eff_storeN (vs := [.int .u64 _, .int .i64 _, .int .i64 _]) h Try.sizeOf73 rfl rfl rfl rfl rfl (fun k _ _ => free0 k)) rfl rfl ?_
      rintro _ w h
      try simp only [splice, List.take_zero, List.take_succ_cons, List.take_nil, List.drop_succ_cons, List.drop_zero, List.drop_nil, List.nil_append, List.cons_append, List.append_nil, List.length_cons, List.length_nil, Nat.zero_add, Nat.reduceAdd] at h
      refine WL.val run_assign rfl rfl ?_
      refine WL.nil ?_
      refine W.seq ?_
      refine W.seq ?_
      refine W.region ?_
      refine WL.val run_move rfl rfl ?_
      refine WL.val (run_eqlT rfl rfl (rfl)) rfl rfl ?_
      refine WL.nil ?_
      refine W.condT rfl ?_
      refine W.seq ?_
      refine W.draw Try.follows h (fun w h => ?_)
      refine WT.loadN (vs := [.int .u64 _, .int .i64 _, .int .i64 _]) 0 rfl (by kernel_rfl) Try.isAgg73 Try.sizeOf73 rfl rfl (h.rowV (n := 3) rfl) rfl rfl ?_
      refine WT.pure 3 rfl (by kernel_rfl) (fun w' => run_move) rfl rfl ?_
      refine WT.take 4 (fun w => Bytes (.slice ax s.length cx) s (hp w)) rfl (by kernel_rfl) rfl rfl (h.readsTo C) (fun w' hC => run_bytesStr Try.underlying22 Try.underlying5 Try.underlying9 rfl hC) ?_
      refine WT.eff 1 [true, false] rfl (by kernel_rfl) (by kernel_rfl) (eff_call Try.call45 (encode_ok (e := epoW s) (p := oneW s 8) (m := oneW s 9) (epoW_lt s) (oneW_lt s 8) (oneW_lt s 9) h)) rfl rfl ?_
      rintro v22 w ⟨a22, hv22, h⟩
      rw [enc_dec hok.1] at hv22 h
      subst hv22
      refine ⟨⟨h.readsTo C, trivial⟩, ?_⟩
      refine WT.take 2 (fun w => Bytes (.slice a22 s.length s.length) s (hp w)) rfl (by kernel_rfl) rfl rfl (h.cellsO (v := .slice a22 s.length s.length)) (fun w' hC => run_bytesStr Try.underlying22 Try.underlying5 Try.underlying9 rfl hC) ?_
      refine WT.pure 5 rfl (by kernel_rfl) (fun w' => (run_neqStrF rfl rfl rfl)) rfl rfl ?_
      refine WT.pure 6 rfl (by kernel_rfl) (fun w' => run_move) rfl rfl ?_
      refine WT.loadN (vs := [.int .u64 _, .int .i64 _, .int .i64 _]) 7 rfl (by kernel_rfl) Try.isAgg73 Try.sizeOf73 rfl rfl (h.rowV (n := 3) rfl) rfl rfl ?_
      refine WT.eff 8 [false, false, false] rfl (by kernel_rfl) (by kernel_rfl) (eff_call Try.call46 (rright_ok (e := epoW s) (p := oneW s 8) (m := oneW s 9) h)) rfl rfl ?_
      rintro v0 w ⟨hv0, h⟩
      rw [decide_eq_true (show RightW (oneW s 8 : Int) (oneW s 9 : Int) from hok.2)] at hv0
      subst hv0
      refine ⟨trivial, ?_⟩
      refine WT.pure 9 rfl (by kernel_rfl) (fun w' => (run_not rfl)) rfl rfl ?_
      refine WT.pure 10 rfl (by kernel_rfl) (fun w' => (run_pickF rfl)) rfl rfl ?_
      refine WT.pure 11 rfl (by kernel_rfl) (fun w' => run_move) rfl rfl ?_
      refine WT.pure 12 rfl (by kernel_rfl) (fun w' => run_move) rfl rfl ?_
      refine WT.pure 13 rfl (by kernel_rfl) (fun w' => (run_lenSlice Try.underlying22 rfl)) rfl rfl ?_
      refine WT.pure 14 rfl (by kernel_rfl) (fun w' => run_neqF rfl rfl (by omega)) rfl rfl ?_
      refine WT.pure 15 rfl (by kernel_rfl) (fun w' => (run_pickF rfl)) rfl rfl ?_
      refine WT.done (by kernel_rfl) ?_
      refine W.condF rfl ?_
      refine W.skip ?_
      refine W.seq ?_
      refine W.seq ?_
      refine W.region ?_
      refine WL.val (run_loadB (vs := [.int .u64 _, .int .i64 _, .int .i64 _]) h Try.isAgg73 Try.sizeOf73 rfl rfl rfl) rfl rfl ?_
      refine WL.eff (eff_call Try.call46 (rright_ok (e := e) h)) rfl rfl ?_
      rintro _ w ⟨rfl, h⟩
      refine WL.val (run_notDec rfl) rfl rfl ?_
      refine WL.nil ?_
      refine W.condIf rfl (fun c25 => ?_) (fun c25 => ?_)
      · skip
        refine W.seq ?_
        refine W.region ?_
        refine WL.val run_assign rfl rfl ?_
        refine WL.nil ?_
        refine W.ret ?_
        refine bodyQ.r1 (v := .bool _) Try.results10 rfl ?_
        -- path FTT
        exact ⟨rfl, h.to⟩
      · skip
        refine W.skip ?_
        refine W.seq ?_
        have hr : RightW p m := Decidable.not_not.1 c25
        have hpm : 0 ≤ p ∧ p < 256 ∧ 0 ≤ m ∧ m < 256 := by unfold RightW at hr; omega
        have ob_ := Int.eq_ofNat_of_zero_le hpm.1
        obtain ⟨p, rfl⟩ := ob_
        have ob_ := Int.eq_ofNat_of_zero_le hpm.2.2.1
        obtain ⟨m, rfl⟩ := ob_
        refine W.region ?_
        refine WL.val (run_loadB (vs := [.int .u64 _, .int .i64 _, .int .i64 _]) h Try.isAgg73 Try.sizeOf73 rfl rfl rfl) rfl rfl ?_
        refine WL.eff (eff_call Try.call45 (encode_ok (e := e) (p := p) (m := m) he (by omega) (by omega) h)) rfl rfl ?_
        rintro _ w ⟨a66, rfl, h⟩
        refine WL.eff (eff_call Try.call44 (decode_ok (s := (encW e p m)) h (Gives.ownO (v := .slice a66 (encW e p m).length (encW e p m).length)))) rfl rfl ?_
        rintro _ w hg
        rw [enc_epo (show e < 256 ^ 8 from he), enc_p (show p < 256 by omega), enc_m (show m < 256 by omega), encW_length] at hg
        rcases hg with ⟨_, rfl, h⟩ | ⟨hno2, _, _⟩
        rotate_left
        · exact absurd ⟨rfl, hr⟩ hno2
        refine WL.val run_move rfl rfl ?_
        refine WL.val (run_extract rfl rfl) rfl rfl ?_
        refine WL.val (run_extract rfl rfl) rfl rfl ?_
        refine WL.eff (eff_alloc h Try.zeroValue73 rfl) rfl rfl ?_
        rintro _ w ⟨b7, rfl, h⟩
        refine WL.eff (eff_storeN (vs := [.int .u64 _, .int .i64 _, .int .i64 _]) h Try.sizeOf73 rfl rfl rfl rfl rfl (fun k _ _ => free0 k)) rfl rfl ?_
        rintro _ w h
        try simp only [splice, List.take_zero, List.take_succ_cons, List.take_nil, List.drop_succ_cons, List.drop_zero, List.drop_nil, List.nil_append, List.cons_append, List.append_nil, List.length_cons, List.length_nil, Nat.zero_add, Nat.reduceAdd] at h
        refine WL.val run_assign rfl rfl ?_
        refine WL.nil ?_
        refine W.seq ?_
        refine W.region ?_
        refine WL.val run_move rfl rfl ?_
        refine WL.val (run_eqlT rfl rfl (rfl)) rfl rfl ?_
        refine WL.val run_move rfl rfl ?_
        refine WL.val (run_loadB (vs := [.int .u64 _, .int .i64 _, .int .i64 _]) h Try.isAgg73 Try.sizeOf73 rfl rfl rfl) rfl rfl ?_
        refine WL.val (run_loadB (vs := [.int .u64 _, .int .i64 _, .int .i64 _]) h Try.isAgg73 Try.sizeOf73 rfl rfl rfl) rfl rfl ?_
        refine WL.val (val_true (run_eqlI3 Try.underlying73 (by decide) (by decide) (by decide) rfl rfl rfl Try.underlying40 Try.underlying3 Try.underlying3 Try.isAgg40 Try.isAgg3 Try.isAgg3 (by kernel_rfl) (by kernel_rfl) rfl rfl) (⟨rfl, rfl, rfl⟩)) rfl rfl ?_
        refine WL.val (run_pickT rfl) rfl rfl ?_
        refine WL.val run_move rfl rfl ?_
        refine WL.val (run_loadB (vs := [.int .u64 _, .int .i64 _, .int .i64 _]) h Try.isAgg73 Try.sizeOf73 rfl rfl rfl) rfl rfl ?_
        refine WL.eff (eff_call Try.call45 (encode_ok (e := e) (p := p) (m := m) he (by omega) (by omega) h)) rfl rfl ?_
        rintro _ w ⟨a79, rfl, h⟩
        refine WL.val (run_lenSlice Try.underlying22 rfl) rfl rfl ?_
        refine WL.val (run_eqlT rfl rfl (by rw [encW_length]; rfl)) rfl rfl ?_
        refine WL.val (run_pickT rfl) rfl rfl ?_
        refine WL.val run_assign rfl rfl ?_
        refine WL.nil ?_
        refine W.ret ?_
        refine bodyQ.r1 (v := .bool _) Try.results10 rfl ?_
        -- path FTF
        exact ⟨rfl, h.to⟩
    · skip
      refine WL.val run_move rfl rfl ?_
      refine WL.val (run_extract rfl rfl) rfl rfl ?_
      refine WL.val (run_extract rfl rfl) rfl rfl ?_
      refine WL.eff (eff_alloc h Try.zeroValue73 rfl) rfl rfl ?_
      rintro _ w ⟨b5, rfl, h⟩
      refine WL.eff (eff_storeN (vs := [.int .u64 _, .int .i64 _, .int .i64 _]) h Try.sizeOf73 rfl rfl rfl rfl rfl (fun k _ _ => free0 k)) rfl rfl ?_
      rintro _ w h
      try simp only [splice, List.take_zero, List.take_succ_cons, List.take_nil, List.drop_succ_cons, List.drop_zero, List.drop_nil, List.nil_append, List.cons_append, List.append_nil, List.length_cons, List.length_nil, Nat.zero_add, Nat.reduceAdd] at h
      refine WL.val run_assign rfl rfl ?_
      refine WL.nil ?_
      refine W.seq ?_
      refine W.seq ?_
      refine W.region ?_
      refine WL.val run_move rfl rfl ?_
      refine WL.val (run_eqlF rfl rfl (by decide)) rfl rfl ?_
      refine WL.nil ?_
      refine W.condF rfl ?_
      refine W.seq ?_
      have ob_ : ∃ x, s.length = 10 → s[8]? = some x := by
        by_cases h10 : s.length = 10
        · exact ⟨s[8]'(by omega), fun _ => List.getElem?_eq_getElem _⟩
        · exact ⟨0, fun hh => absurd hh h10⟩
      obtain ⟨x8, hx8⟩ := ob_
      have ob_ : ∃ x, s.length = 10 → s[9]? = some x := by
        by_cases h10 : s.length = 10
        · exact ⟨s[9]'(by omega), fun _ => List.getElem?_eq_getElem _⟩
        · exact ⟨0, fun hh => absurd hh h10⟩
      obtain ⟨x9, hx9⟩ := ob_
      have hx8l := x8.toNat_lt
      have hx9l := x9.toNat_lt
      refine W.draw Try.follows h (fun w h => ?_)
      refine WT.pure 0 rfl (by kernel_rfl) (fun w' => run_move) rfl rfl ?_
      refine WT.pure 1 rfl (by kernel_rfl) (fun w' => run_neqF rfl rfl (rfl)) rfl rfl ?_
      refine WT.pure 2 rfl (by kernel_rfl) (fun w' => run_move) rfl rfl ?_
      refine WT.loadN (vs := [.int .u64 _, .int .i64 _, .int .i64 _]) 3 rfl (by kernel_rfl) Try.isAgg73 Try.sizeOf73 rfl rfl (h.rowV (n := 3) rfl) rfl rfl ?_
      refine WT.pure 4 rfl (by kernel_rfl) (fun w' => (run_buildS (pl := [(0, 1), (1, 1), (2, 1)]) (out := [.int .u64 _, .int .i64 _, .int .i64 _]) Try.underlying73 Try.zeroValue73 (fun w => by kernel_rfl) rfl (trivial) rfl)) rfl rfl ?_
      refine WT.pure 5 rfl (by kernel_rfl) (fun w' => (val_false (run_neqI3 Try.underlying73 (by decide) (by decide) (by decide) rfl rfl rfl Try.underlying40 Try.underlying3 Try.underlying3 Try.isAgg40 Try.isAgg3 Try.isAgg3 (by kernel_rfl) (by kernel_rfl) rfl rfl) (fun hh => hh ⟨rfl, rfl, rfl⟩))) rfl rfl ?_
      refine WT.pure 6 rfl (by kernel_rfl) (fun w' => (run_pickF rfl)) rfl rfl ?_
      refine WT.pure 7 rfl (by kernel_rfl) (fun w' => run_move) rfl rfl ?_
      refine WT.pure 8 rfl (by kernel_rfl) (fun w' => run_move) rfl rfl ?_
      refine WT.pure 9 rfl (by kernel_rfl) (fun w' => (run_lenSlice Try.underlying22 rfl)) rfl rfl ?_
      refine WT.dec 10 rfl (by kernel_rfl) (fun w' => (run_eql rfl rfl)) rfl rfl (fun c47 => ?_) (fun c47 => ?_)
      · skip
        have h10 : s.length = 10 := by omega
        have ob_ := Cells.addr (h.readsTo C) (by omega)
        obtain ⟨ba, oa, haa⟩ := ob_
        subst haa
        refine WT.pure 11 rfl (by kernel_rfl) (fun w' => run_move) rfl rfl ?_
        refine WT.pure 12 rfl (by kernel_rfl) (fun w' => run_move) rfl rfl ?_
        refine WT.pure 13 rfl (by kernel_rfl) (fun w' => (run_indexAddr Try.underlying22 Try.sizeOf5 rfl rfl (by omega) (by omega))) rfl rfl ?_
        refine WT.load1 14 rfl (by kernel_rfl) Try.isAgg5 rfl ((h.readsTo C).elem (i := 8) (vs := [.int .u8 (x8.toNat : Int)]) (by omega) (bytes_row (hx8 h10)) 0 _ rfl) rfl rfl ?_
        refine WT.pure 15 rfl (by kernel_rfl) (fun w' => (run_convInt64 Try.underlying5 Try.underlying3 rfl (by omega) (by omega))) rfl rfl ?_
        refine WT.pure 16 rfl (by kernel_rfl) (fun w' => run_move) rfl rfl ?_
        refine WT.pure 17 rfl (by kernel_rfl) (fun w' => (run_indexAddr Try.underlying22 Try.sizeOf5 rfl rfl (by omega) (by omega))) rfl rfl ?_
        refine WT.load1 18 rfl (by kernel_rfl) Try.isAgg5 rfl ((h.readsTo C).elem (i := 9) (vs := [.int .u8 (x9.toNat : Int)]) (by omega) (bytes_row (hx9 h10)) 0 _ rfl) rfl rfl ?_
        refine WT.pure 19 rfl (by kernel_rfl) (fun w' => (run_convInt64 Try.underlying5 Try.underlying3 rfl (by omega) (by omega))) rfl rfl ?_
        refine WT.pure 20 rfl (by kernel_rfl) (fun w' => (run_buildS (pl := [(0, 1), (1, 1), (2, 1)]) (out := [.int .u64 _, .int .i64 _, .int .i64 _]) Try.underlying73 Try.zeroValue73 (fun w => by kernel_rfl) rfl (⟨⟨_, _, rfl, rfl, by decide⟩, ⟨⟨_, _, rfl, rfl, by decide⟩, trivial⟩⟩) rfl)) rfl rfl ?_
        refine WT.eff 21 [false, false, false] rfl (by kernel_rfl) (by kernel_rfl) (eff_call Try.call46 (rright_ok (e := 0) (p := (x8.toNat : Int)) (m := (x9.toNat : Int)) h)) rfl rfl ?_
        rintro v0 w ⟨hv0, h⟩
        rw [decide_eq_false (show ¬ RightW (x8.toNat : Int) (x9.toNat : Int) from fun hr => hno ⟨h10, by rw [oneW_get (hx8 h10), oneW_get (hx9 h10)]; exact hr⟩)] at hv0
        subst hv0
        refine ⟨trivial, ?_⟩
        refine WT.pure 22 rfl (by kernel_rfl) (fun w' => (run_pickT rfl)) rfl rfl ?_
        refine WT.pure 23 rfl (by kernel_rfl) (fun w' => (run_pickF rfl)) rfl rfl ?_
        refine WT.done (by kernel_rfl) ?_
        refine W.condF rfl ?_
        refine W.skip ?_
        refine W.seq ?_
        refine W.seq ?_
        refine W.region ?_
        refine WL.val (run_loadB (vs := [.int .u64 _, .int .i64 _, .int .i64 _]) h Try.isAgg73 Try.sizeOf73 rfl rfl rfl) rfl rfl ?_
        refine WL.eff (eff_call Try.call46 (rright_ok (e := e) h)) rfl rfl ?_
        rintro _ w ⟨rfl, h⟩
        refine WL.val (run_notDec rfl) rfl rfl ?_
        refine WL.nil ?_
        refine W.condIf rfl (fun c25 => ?_) (fun c25 => ?_)
        · skip
          refine W.seq ?_
          refine W.region ?_
          refine WL.val run_assign rfl rfl ?_
          refine WL.nil ?_
          refine W.ret ?_
          refine bodyQ.r1 (v := .bool _) Try.results10 rfl ?_
          -- path FFTT
          exact ⟨rfl, h.to⟩
        · skip
          refine W.skip ?_
          refine W.seq ?_
          have hr : RightW p m := Decidable.not_not.1 c25
          have hpm : 0 ≤ p ∧ p < 256 ∧ 0 ≤ m ∧ m < 256 := by unfold RightW at hr; omega
          have ob_ := Int.eq_ofNat_of_zero_le hpm.1
          obtain ⟨p, rfl⟩ := ob_
          have ob_ := Int.eq_ofNat_of_zero_le hpm.2.2.1
          obtain ⟨m, rfl⟩ := ob_
          refine W.region ?_
          refine WL.val (run_loadB (vs := [.int .u64 _, .int .i64 _, .int .i64 _]) h Try.isAgg73 Try.sizeOf73 rfl rfl rfl) rfl rfl ?_
          refine WL.eff (eff_call Try.call45 (encode_ok (e := e) (p := p) (m := m) he (by omega) (by omega) h)) rfl rfl ?_
          rintro _ w ⟨a66, rfl, h⟩
          refine WL.eff (eff_call Try.call44 (decode_ok (s := (encW e p m)) h (Gives.ownO (v := .slice a66 (encW e p m).length (encW e p m).length)))) rfl rfl ?_
          rintro _ w hg
          rw [enc_epo (show e < 256 ^ 8 from he), enc_p (show p < 256 by omega), enc_m (show m < 256 by omega), encW_length] at hg
          rcases hg with ⟨_, rfl, h⟩ | ⟨hno2, _, _⟩
          rotate_left
          · exact absurd ⟨rfl, hr⟩ hno2
          refine WL.val run_move rfl rfl ?_
          refine WL.val (run_extract rfl rfl) rfl rfl ?_
          refine WL.val (run_extract rfl rfl) rfl rfl ?_
          refine WL.eff (eff_alloc h Try.zeroValue73 rfl) rfl rfl ?_
          rintro _ w ⟨b7, rfl, h⟩
          refine WL.eff (eff_storeN (vs := [.int .u64 _, .int .i64 _, .int .i64 _]) h Try.sizeOf73 rfl rfl rfl rfl rfl (fun k _ _ => free0 k)) rfl rfl ?_
          rintro _ w h
          try simp only [splice, List.take_zero, List.take_succ_cons, List.take_nil, List.drop_succ_cons, List.drop_zero, List.drop_nil, List.nil_append, List.cons_append, List.append_nil, List.length_cons, List.length_nil, Nat.zero_add, Nat.reduceAdd] at h
          refine WL.val run_assign rfl rfl ?_
          refine WL.nil ?_
          refine W.seq ?_
          refine W.region ?_
          refine WL.val run_move rfl rfl ?_
          refine WL.val (run_eqlT rfl rfl (rfl)) rfl rfl ?_
          refine WL.val run_move rfl rfl ?_
          refine WL.val (run_loadB (vs := [.int .u64 _, .int .i64 _, .int .i64 _]) h Try.isAgg73 Try.sizeOf73 rfl rfl rfl) rfl rfl ?_
          refine WL.val (run_loadB (vs := [.int .u64 _, .int .i64 _, .int .i64 _]) h Try.isAgg73 Try.sizeOf73 rfl rfl rfl) rfl rfl ?_
          refine WL.val (val_true (run_eqlI3 Try.underlying73 (by decide) (by decide) (by decide) rfl rfl rfl Try.underlying40 Try.underlying3 Try.underlying3 Try.isAgg40 Try.isAgg3 Try.isAgg3 (by kernel_rfl) (by kernel_rfl) rfl rfl) (⟨rfl, rfl, rfl⟩)) rfl rfl ?_
          refine WL.val (run_pickT rfl) rfl rfl ?_
          refine WL.val run_move rfl rfl ?_
          refine WL.val (run_loadB (vs := [.int .u64 _, .int .i64 _, .int .i64 _]) h Try.isAgg73 Try.sizeOf73 rfl rfl rfl) rfl rfl ?_
          refine WL.eff (eff_call Try.call45 (encode_ok (e := e) (p := p) (m := m) he (by omega) (by omega) h)) rfl rfl ?_
          rintro _ w ⟨a79, rfl, h⟩
          refine WL.val (run_lenSlice Try.underlying22 rfl) rfl rfl ?_
          refine WL.val (run_eqlT rfl rfl (by rw [encW_length]; rfl)) rfl rfl ?_
          refine WL.val (run_pickT rfl) rfl rfl ?_
          refine WL.val run_assign rfl rfl ?_
          refine WL.nil ?_
          refine W.ret ?_
          refine bodyQ.r1 (v := .bool _) Try.results10 rfl ?_
          -- path FFTF
          exact ⟨rfl, h.to⟩
      · skip
        refine WT.pure 11 rfl (by kernel_rfl) (fun w' => run_move) rfl rfl ?_
        refine WT.skip 12 rfl (by kernel_rfl) rfl rfl ?_
        refine WT.skip 13 rfl (by kernel_rfl) rfl rfl ?_
        refine WT.skip 14 rfl (by kernel_rfl) rfl rfl ?_
        refine WT.skip 15 rfl (by kernel_rfl) rfl rfl ?_
        refine WT.skip 16 rfl (by kernel_rfl) rfl rfl ?_
        refine WT.skip 17 rfl (by kernel_rfl) rfl rfl ?_
        refine WT.skip 18 rfl (by kernel_rfl) rfl rfl ?_
        refine WT.skip 19 rfl (by kernel_rfl) rfl rfl ?_
        refine WT.skip 20 rfl (by kernel_rfl) rfl rfl ?_
        refine WT.skip 21 rfl (by kernel_rfl) rfl rfl ?_
        refine WT.pure 22 rfl (by kernel_rfl) (fun w' => (run_pickF rfl)) rfl rfl ?_
        refine WT.pure 23 rfl (by kernel_rfl) (fun w' => (run_pickF rfl)) rfl rfl ?_
        refine WT.done (by kernel_rfl) ?_
        refine W.condF rfl ?_
        refine W.skip ?_
        refine W.seq ?_
        refine W.seq ?_
        refine W.region ?_
        refine WL.val (run_loadB (vs := [.int .u64 _, .int .i64 _, .int .i64 _]) h Try.isAgg73 Try.sizeOf73 rfl rfl rfl) rfl rfl ?_
        refine WL.eff (eff_call Try.call46 (rright_ok (e := e) h)) rfl rfl ?_
        rintro _ w ⟨rfl, h⟩
        refine WL.val (run_notDec rfl) rfl rfl ?_
        refine WL.nil ?_
        refine W.condIf rfl (fun c25 => ?_) (fun c25 => ?_)
        · skip
          refine W.seq ?_
          refine W.region ?_
          refine WL.val run_assign rfl rfl ?_
          refine WL.nil ?_
          refine W.ret ?_
          refine bodyQ.r1 (v := .bool _) Try.results10 rfl ?_
          -- path FFFT
          exact ⟨rfl, h.to⟩
        · skip
          refine W.skip ?_
          refine W.seq ?_
          have hr : RightW p m := Decidable.not_not.1 c25
          have hpm : 0 ≤ p ∧ p < 256 ∧ 0 ≤ m ∧ m < 256 := by unfold RightW at hr; omega
          have ob_ := Int.eq_ofNat_of_zero_le hpm.1
          obtain ⟨p, rfl⟩ := ob_
          have ob_ := Int.eq_ofNat_of_zero_le hpm.2.2.1
          obtain ⟨m, rfl⟩ := ob_
          refine W.region ?_
          refine WL.val (run_loadB (vs := [.int .u64 _, .int .i64 _, .int .i64 _]) h Try.isAgg73 Try.sizeOf73 rfl rfl rfl) rfl rfl ?_
          refine WL.eff (eff_call Try.call45 (encode_ok (e := e) (p := p) (m := m) he (by omega) (by omega) h)) rfl rfl ?_
          rintro _ w ⟨a66, rfl, h⟩
          refine WL.eff (eff_call Try.call44 (decode_ok (s := (encW e p m)) h (Gives.ownO (v := .slice a66 (encW e p m).length (encW e p m).length)))) rfl rfl ?_
          rintro _ w hg
          rw [enc_epo (show e < 256 ^ 8 from he), enc_p (show p < 256 by omega), enc_m (show m < 256 by omega), encW_length] at hg
          rcases hg with ⟨_, rfl, h⟩ | ⟨hno2, _, _⟩
          rotate_left
          · exact absurd ⟨rfl, hr⟩ hno2
          refine WL.val run_move rfl rfl ?_
          refine WL.val (run_extract rfl rfl) rfl rfl ?_
          refine WL.val (run_extract rfl rfl) rfl rfl ?_
          refine WL.eff (eff_alloc h Try.zeroValue73 rfl) rfl rfl ?_
          rintro _ w ⟨b7, rfl, h⟩
          refine WL.eff (eff_storeN (vs := [.int .u64 _, .int .i64 _, .int .i64 _]) h Try.sizeOf73 rfl rfl rfl rfl rfl (fun k _ _ => free0 k)) rfl rfl ?_
          rintro _ w h
          try simp only [splice, List.take_zero, List.take_succ_cons, List.take_nil, List.drop_succ_cons, List.drop_zero, List.drop_nil, List.nil_append, List.cons_append, List.append_nil, List.length_cons, List.length_nil, Nat.zero_add, Nat.reduceAdd] at h
          refine WL.val run_assign rfl rfl ?_
          refine WL.nil ?_
          refine W.seq ?_
          refine W.region ?_
          refine WL.val run_move rfl rfl ?_
          refine WL.val (run_eqlT rfl rfl (rfl)) rfl rfl ?_
          refine WL.val run_move rfl rfl ?_
          refine WL.val (run_loadB (vs := [.int .u64 _, .int .i64 _, .int .i64 _]) h Try.isAgg73 Try.sizeOf73 rfl rfl rfl) rfl rfl ?_
          refine WL.val (run_loadB (vs := [.int .u64 _, .int .i64 _, .int .i64 _]) h Try.isAgg73 Try.sizeOf73 rfl rfl rfl) rfl rfl ?_
          refine WL.val (val_true (run_eqlI3 Try.underlying73 (by decide) (by decide) (by decide) rfl rfl rfl Try.underlying40 Try.underlying3 Try.underlying3 Try.isAgg40 Try.isAgg3 Try.isAgg3 (by kernel_rfl) (by kernel_rfl) rfl rfl) (⟨rfl, rfl, rfl⟩)) rfl rfl ?_
          refine WL.val (run_pickT rfl) rfl rfl ?_
          refine WL.val run_move rfl rfl ?_
          refine WL.val (run_loadB (vs := [.int .u64 _, .int .i64 _, .int .i64 _]) h Try.isAgg73 Try.sizeOf73 rfl rfl rfl) rfl rfl ?_
          refine WL.eff (eff_call Try.call45 (encode_ok (e := e) (p := p) (m := m) he (by omega) (by omega) h)) rfl rfl ?_
          rintro _ w ⟨a79, rfl, h⟩
          refine WL.val (run_lenSlice Try.underlying22 rfl) rfl rfl ?_
          refine WL.val (run_eqlT rfl rfl (by rw [encW_length]; rfl)) rfl rfl ?_
          refine WL.val (run_pickT rfl) rfl rfl ?_
          refine WL.val run_assign rfl rfl ?_
          refine WL.nil ?_
          refine W.ret ?_
          refine bodyQ.r1 (v := .bool _) Try.results10 rfl ?_
          -- path FFFF
          exact ⟨rfl, h.to⟩

theorem wraces_ok {ax : Option Addr} {cx : Nat} {l : List UInt8} (h : On W0 F w) (C : Gives F (Bytes (.slice ax l.length cx) l)) : Calls Try.prog 11 #[.slice ax l.length cx] w (Ret fun v w' => v = .bool true ∧ On W0 F w') := by
  refine enter Try.func11 rfl Try.ntmps11 rfl ?_
  refine W.seq ?_
  refine W.region ?_
  refine WL.val run_assign rfl rfl ?_
  refine WL.nil ?_
  refine W.seq ?_
  refine W.seq ?_
  refine W.region ?_
  refine WL.eff (eff_call Try.call43 (wknown_ok h)) rfl rfl ?_
  rintro _ w ⟨rfl, h⟩
  refine WL.val (run_not rfl) rfl rfl ?_
  refine WL.nil ?_
  refine W.condF rfl ?_
  refine W.skip ?_
  refine W.seq ?_
  refine W.seq ?_
  refine W.region ?_
  refine WL.val run_move rfl rfl ?_
  refine WL.val (run_lenSlice Try.underlying22 rfl) rfl rfl ?_
  refine WL.dec (run_eql rfl rfl) rfl rfl (fun c18 => ?_) (fun c18 => ?_)
  · skip
    refine WL.val run_move rfl rfl ?_
    refine WL.skip rfl rfl ?_
    refine WL.skip rfl rfl ?_
    refine WL.skip rfl rfl ?_
    refine WL.val (run_pickT rfl) rfl rfl ?_
    refine WL.nil ?_
    refine W.condT rfl ?_
    refine W.seq ?_
    refine W.region ?_
    refine WL.val run_assign rfl rfl ?_
    refine WL.nil ?_
    refine W.ret ?_
    refine bodyQ.r1 (v := .bool _) Try.results11 rfl ?_
    -- path T
    exact ⟨rfl, h.to⟩
  · skip
    refine WL.val run_move rfl rfl ?_
    refine WL.val run_move rfl rfl ?_
    refine WL.val (run_lenSlice Try.underlying22 rfl) rfl rfl ?_
    refine WL.val (run_gtr rfl rfl) rfl rfl ?_
    refine WL.val (run_pickF rfl) rfl rfl ?_
    refine WL.nil ?_
    refine W.condIf rfl (fun c7 => ?_) (fun c7 => ?_)
    · skip
      refine W.seq ?_
      refine W.region ?_
      refine WL.val run_assign rfl rfl ?_
      refine WL.nil ?_
      refine W.ret ?_
      refine bodyQ.r1 (v := .bool _) Try.results11 rfl ?_
      -- path FT
      exact ⟨rfl, h.to⟩
    · skip
      refine W.skip ?_
      refine W.seq ?_
      refine W.region ?_
      refine WL.eff (eff_call Try.call16 (new_ok h)) rfl rfl ?_
      rintro _ w hv
      rcases hv with ⟨_, _, b, rfl, h⟩ | ⟨hno, _, _⟩
      rotate_left
      · exact absurd ⟨by decide, by decide⟩ hno
      refine WL.val run_move rfl rfl ?_
      refine WL.val (run_extract rfl rfl) rfl rfl ?_
      refine WL.val (run_extract rfl rfl) rfl rfl ?_
      refine WL.val run_assign rfl rfl ?_
      refine WL.val run_assign rfl rfl ?_
      refine WL.nil ?_
      refine W.seq ?_
      refine W.region ?_
      refine WL.val run_move rfl rfl ?_
      refine WL.val (run_buildS (pl := [(0, 1), (1, 1), (2, 1)]) (out := [.int .u64 _, .int .i64 _, .int .i64 _]) Try.underlying73 Try.zeroValue73 (fun w => by kernel_rfl) rfl (⟨⟨_, _, rfl, rfl, by decide⟩, ⟨⟨_, _, rfl, rfl, by decide⟩, ⟨⟨_, _, rfl, rfl, by decide⟩, trivial⟩⟩⟩) rfl) rfl rfl ?_
      refine WL.eff (eff_call Try.call47 (wformat_found (d := newD 2) (e := 5) (p := 0) (m := 3) (by decide) (by decide) (newLive 2) ⟨by decide, by decide⟩ ⟨by decide, by decide⟩ (by decide) (h.fetch (DiskP 106 110 b (newD 2))))) rfl rfl ?_
      rintro _ w ⟨rfl, d1, I1, hn1, hc1, h⟩
      have hn1 : d1.n = 2 := hn1
      have hc1 : d1.calls = 3 := hc1
      refine WL.nil ?_
      refine W.seq ?_
      refine W.region ?_
      refine WL.val run_move rfl rfl ?_
      refine WL.eff (eff_call Try.call48 (wopen_found (e := 5) (p := 0) (m := 3) I1 (by decide) (by decide) (by omega) h)) rfl rfl ?_
      rintro _ w ⟨bw, bt, rfl, h⟩
      refine WL.val run_move rfl rfl ?_
      refine WL.val (run_extract rfl rfl) rfl rfl ?_
      refine WL.val (run_extract rfl rfl) rfl rfl ?_
      refine WL.val run_assign rfl rfl ?_
      refine WL.val run_assign rfl rfl ?_
      refine WL.nil ?_
      refine W.seq ?_
      refine W.region ?_
      refine WL.val run_assign rfl rfl ?_
      refine WL.nil ?_
      refine W.seq ?_
      refine W.region ?_
      refine WL.eff (eff_alloc h Try.zeroValue73 rfl) rfl rfl ?_
      rintro _ w ⟨b8, rfl, h⟩
      refine WL.nil ?_
      refine W.seq ?_
      refine W.seq ?_
      refine W.region ?_
      refine WL.val run_assign rfl rfl ?_
      refine WL.nil ?_
      refine W.block ?_
      refine W.loop (fun (i : Nat) env w => i ≤ l.length ∧ ∃ (j : Env) (won : Int) (e p m qe qp qm n : Nat) (d : Dk), env = mkE j [(0, .slice ax l.length cx), (5, .pointer (some ⟨bw, 0, none⟩)), (7, .int .i64 won), (8, .pointer (some ⟨b8, 0, none⟩)), (9, .int .i64 (i : Nat))] ∧ ((won = -1 ∧ e = 5) ∨ (0 ≤ won ∧ e = 6 ∧ qe = e ∧ qp = p ∧ qm = m)) ∧ e < 7 ∧ n ≤ i + 1 ∧ d.n = 2 ∧ d.calls ≤ 3 + 2 * (i : Int) ∧ TwI d 0 n (encW e p m) ∧ On W0 (blk bw [.pointer (some ⟨bt, 0, none⟩), .int .u64 (e : Int), .int .i64 (p : Int), .int .i64 (m : Int)] 140 :: TwinP 126 bt b 0 n (encW e p m) :: DiskP 106 110 b d :: blk b8 [.int .u64 (qe : Int), .int .i64 (qp : Int), .int .i64 (qm : Int)] 73 :: F) w) (fun i => l.length - i) (0) ?_ ?_
      · exact ⟨Nat.zero_le _, _, -1, 5, 0, 3, 0, 0, 0, 1, d1, mkE_of ⟨rfl, rfl, rfl, rfl, rfl, trivial⟩, .inl ⟨rfl, rfl⟩, by decide, by decide, hn1, by omega, I1, h.to⟩
      · rintro i env w ⟨hi, j, won, e, p, m, qe, qp, qm, n, d, rfl, hrel, he7, hni, hdn, hdc, I, h⟩
        refine W.seq ?_
        refine W.seq ?_
        refine W.region ?_
        refine WL.val run_move rfl rfl ?_
        refine WL.val run_move rfl rfl ?_
        refine WL.val (run_lenSlice Try.underlying22 rfl) rfl rfl ?_
        refine WL.val (run_lss rfl rfl) rfl rfl ?_
        refine WL.nil ?_
        refine W.condIf rfl (fun c20 => ?_) (fun c20 => ?_)
        · skip
          refine W.skip ?_
          refine W.seq ?_
          refine W.block ?_
          refine W.seq ?_
          have hi2 : i < l.length := by omega
          have ob_ : ∃ c, l[i]? = some c := ⟨l[i]'hi2, List.getElem?_eq_getElem _⟩
          obtain ⟨c, hc⟩ := ob_
          have hcl := c.toNat_lt
          have ob_ := Cells.addr (h.readsTo C) (by omega)
          obtain ⟨ba, oa, haa⟩ := ob_
          subst haa
          refine W.draw Try.follows h (fun w h => ?_)
          refine WT.pure 0 rfl (by kernel_rfl) (fun w' => run_move) rfl rfl ?_
          refine WT.pure 1 rfl (by kernel_rfl) (fun w' => run_move) rfl rfl ?_
          refine WT.pure 2 rfl (by kernel_rfl) (fun w' => (run_indexAddr Try.underlying22 Try.sizeOf5 rfl rfl (by omega) (by omega))) rfl rfl ?_
          refine WT.load1 3 rfl (by kernel_rfl) Try.isAgg5 rfl ((h.readsTo C).elem (i := i) (vs := [.int .u8 (c.toNat : Int)]) (by omega) (bytes_row hc) 0 _ rfl) rfl rfl ?_
          refine WT.pure 4 rfl (by kernel_rfl) (fun w' => (run_andMod (k := .u8) 1 (m := c.toNat) (n := 1) rfl rfl (by show _ ≤ (255 : Int); omega) (by decide) rfl)) rfl rfl ?_
          refine WT.pure 5 rfl (by kernel_rfl) (fun w' => (run_convInt64 Try.underlying5 Try.underlying3 rfl (by omega) (by omega))) rfl rfl ?_
          refine WT.pure 6 rfl (by kernel_rfl) (fun w' => run_move) rfl rfl ?_
          refine WT.pure 7 rfl (by kernel_rfl) (fun w' => run_move) rfl rfl ?_
          refine WT.pure 8 rfl (by kernel_rfl) (fun w' => (run_indexAddr Try.underlying22 Try.sizeOf5 rfl rfl (by omega) (by omega))) rfl rfl ?_
          refine WT.load1 9 rfl (by kernel_rfl) Try.isAgg5 rfl ((h.readsTo C).elem (i := i) (vs := [.int .u8 (c.toNat : Int)]) (by omega) (bytes_row hc) 0 _ rfl) rfl rfl ?_
          refine WT.pure 10 rfl (by kernel_rfl) (fun w' => (run_shrN (k := .u8) (m := c.toNat) (j := 1) rfl rfl (by decide))) rfl rfl ?_
          refine WT.pure 11 rfl (by kernel_rfl) (fun w' => (run_andMod (k := .u8) 2 (m := c.toNat / 2 ^ 1) (n := 3) rfl rfl (by show _ ≤ (255 : Int); omega) (by decide) rfl)) rfl rfl ?_
          refine WT.pure 12 rfl (by kernel_rfl) (fun w' => (run_convInt64 Try.underlying5 Try.underlying3 rfl (by omega) (by omega))) rfl rfl ?_
          refine WT.pure 13 rfl (by kernel_rfl) (fun w' => (run_buildS (pl := [(0, 1), (1, 1), (2, 1)]) (out := [.int .u64 _, .int .i64 _, .int .i64 _]) Try.underlying73 Try.zeroValue73 (fun w => by kernel_rfl) rfl (⟨⟨_, _, rfl, rfl, by decide⟩, ⟨⟨_, _, rfl, rfl, by decide⟩, ⟨⟨_, _, rfl, rfl, by decide⟩, trivial⟩⟩⟩) rfl)) rfl rfl ?_
          refine WT.eff 14 [true, true] rfl (by kernel_rfl) (by kernel_rfl) (eff_alloc h Try.zeroValue73 rfl) rfl rfl ?_
          rintro _ w ⟨b10, rfl, h⟩
          refine ⟨⟨(h.readsTo C).elem (i := i) (vs := [.int .u8 (c.toNat : Int)]) (by omega) (bytes_row hc) 0 _ rfl, (h.readsTo C).elem (i := i) (vs := [.int .u8 (c.toNat : Int)]) (by omega) (bytes_row hc) 0 _ rfl, trivial⟩, ?_⟩
          refine WT.eff 15 [false, false] rfl (by kernel_rfl) (by kernel_rfl) (eff_storeN (vs := [.int .u64 _, .int .i64 _, .int .i64 _]) h Try.sizeOf73 rfl rfl rfl rfl rfl (fun k _ _ => free0 k)) rfl rfl ?_
          rintro _ w h
          try simp only [splice, List.take_zero, List.take_succ_cons, List.take_nil, List.drop_succ_cons, List.drop_zero, List.drop_nil, List.nil_append, List.cons_append, List.append_nil, List.length_cons, List.length_nil, Nat.zero_add, Nat.reduceAdd] at h
          refine ⟨trivial, ?_⟩
          refine WT.done (by kernel_rfl) ?_
          refine W.seq ?_
          refine W.region ?_
          refine WL.val run_move rfl rfl ?_
          refine WL.val (run_loadB (vs := [.int .u64 _, .int .i64 _, .int .i64 _]) h Try.isAgg73 Try.sizeOf73 rfl rfl rfl) rfl rfl ?_
          refine WL.eff (eff_call Try.call49 (cas_any (x := 5) (e2 := 6) (p2 := (c.toNat % 2 ^ 1)) (m2 := (c.toNat / 2 ^ 1 % 2 ^ 2)) (by decide) I ⟨by omega, by rw [I.live.armed]; decide⟩ (by show n + 1 < 18446744073709551616; omega) (((h.fetch (DiskP 106 110 b d)).fetch (TwinP 126 bt b 0 n (encW e p m))).fetch (blk bw [.pointer (some ⟨bt, 0, none⟩), .int .u64 (e : Int), .int .i64 (p : Int), .int .i64 (m : Int)] 140)))) rfl rfl ?_
          rintro _ w hg
          rcases hg with ⟨hmay, rfl, d2, I2, hn2, hc2, h⟩ | ⟨hmay, rfl, h⟩
          · skip
            refine WL.val run_move rfl rfl ?_
            refine WL.val (run_extract rfl rfl) rfl rfl ?_
            refine WL.val (run_extract rfl rfl) rfl rfl ?_
            refine WL.val (run_extract rfl rfl) rfl rfl ?_
            refine WL.eff (eff_alloc h Try.zeroValue73 rfl) rfl rfl ?_
            rintro _ w ⟨b11, rfl, h⟩
            refine WL.eff (eff_storeN (vs := [.int .u64 _, .int .i64 _, .int .i64 _]) h Try.sizeOf73 rfl rfl rfl rfl rfl (fun k _ _ => free0 k)) rfl rfl ?_
            rintro _ w h
            try simp only [splice, List.take_zero, List.take_succ_cons, List.take_nil, List.drop_succ_cons, List.drop_zero, List.drop_nil, List.nil_append, List.cons_append, List.append_nil, List.length_cons, List.length_nil, Nat.zero_add, Nat.reduceAdd] at h
            refine WL.val run_assign rfl rfl ?_
            refine WL.val run_assign rfl rfl ?_
            refine WL.nil ?_
            refine W.seq ?_
            refine W.seq ?_
            refine W.region ?_
            refine WL.val run_move rfl rfl ?_
            refine WL.val (run_neqF rfl rfl (rfl)) rfl rfl ?_
            refine WL.val run_move rfl rfl ?_
            refine WL.val run_move rfl rfl ?_
            refine WL.val run_move rfl rfl ?_
            refine WL.val (run_lssT rfl rfl (by omega)) rfl rfl ?_
            refine WL.val run_move rfl rfl ?_
            refine WL.val (run_loadB (vs := [.int .u64 _, .int .i64 _, .int .i64 _]) h Try.isAgg73 Try.sizeOf73 rfl rfl rfl) rfl rfl ?_
            refine WL.eff (eff_call Try.call50 (right_ok (e := 6) h)) rfl rfl ?_
            rintro v0 w ⟨hv0, h⟩
            rw [decide_eq_true (show RightW (((c.toNat % 2 ^ 1) : Nat) : Int) (((c.toNat / 2 ^ 1 % 2 ^ 2) : Nat) : Int) from hmay.2.1)] at hv0
            subst hv0
            refine WL.val (run_pickT rfl) rfl rfl ?_
            refine WL.val (run_neqBool Try.underlying4 rfl rfl) rfl rfl ?_
            refine WL.val (run_pickF rfl) rfl rfl ?_
            refine WL.nil ?_
            refine W.condF rfl ?_
            refine W.skip ?_
            refine W.seq ?_
            refine W.seq ?_
            refine W.region ?_
            refine WL.val run_move rfl rfl ?_
            refine WL.nil ?_
            refine W.condT rfl ?_
            refine W.seq ?_
            refine W.region ?_
            refine WL.val run_move rfl rfl ?_
            refine WL.val run_assign rfl rfl ?_
            refine WL.nil ?_
            refine W.region ?_
            refine WL.val (run_loadB (vs := [.int .u64 _, .int .i64 _, .int .i64 _]) h Try.isAgg73 Try.sizeOf73 rfl rfl rfl) rfl rfl ?_
            refine WL.eff (eff_storeN (vs := [.int .u64 _, .int .i64 _, .int .i64 _]) h Try.sizeOf73 rfl rfl rfl rfl rfl (fun k _ _ => free0 k)) rfl rfl ?_
            rintro _ w h
            try simp only [splice, List.take_zero, List.take_succ_cons, List.take_nil, List.drop_succ_cons, List.drop_zero, List.drop_nil, List.nil_append, List.cons_append, List.append_nil, List.length_cons, List.length_nil, Nat.zero_add, Nat.reduceAdd] at h
            refine WL.nil ?_
            refine W.seq ?_
            refine W.region ?_
            refine WL.val run_move rfl rfl ?_
            refine WL.val (run_geqT rfl rfl (by show (0 : Int) ≤ (i : Int); omega)) rfl rfl ?_
            refine WL.val run_move rfl rfl ?_
            refine WL.val (run_loadB (vs := [.int .u64 _, .int .i64 _, .int .i64 _]) h Try.isAgg73 Try.sizeOf73 rfl rfl rfl) rfl rfl ?_
            refine WL.val (run_loadB (vs := [.int .u64 _, .int .i64 _, .int .i64 _]) h Try.isAgg73 Try.sizeOf73 rfl rfl rfl) rfl rfl ?_
            refine WL.val (val_false (run_neqI3 Try.underlying73 (by decide) (by decide) (by decide) rfl rfl rfl Try.underlying40 Try.underlying3 Try.underlying3 Try.isAgg40 Try.isAgg3 Try.isAgg3 (by kernel_rfl) (by kernel_rfl) rfl rfl) (fun hh => hh ⟨rfl, rfl, rfl⟩)) rfl rfl ?_
            refine WL.val (run_pickT rfl) rfl rfl ?_
            refine WL.val run_move rfl rfl ?_
            refine WL.val run_move rfl rfl ?_
            refine WL.val (run_lssF rfl rfl (by show ¬ (i : Int) < 0; omega)) rfl rfl ?_
            refine WL.val run_move rfl rfl ?_
            refine WL.skip rfl rfl ?_
            refine WL.skip rfl rfl ?_
            refine WL.skip rfl rfl ?_
            refine WL.val (run_pickF rfl) rfl rfl ?_
            refine WL.val (run_pickF rfl) rfl rfl ?_
            refine WL.nil ?_
            refine W.condF rfl ?_
            refine W.skip ?_
            refine W.region ?_
            refine WL.val run_move rfl rfl ?_
            refine WL.val (run_add rfl rfl (by omega) (by omega)) rfl rfl ?_
            refine WL.val run_assign rfl rfl ?_
            refine WL.nil ?_
            -- round, path FFLTT
            exact ⟨i + 1, ⟨by omega, _, (i : Int), 6, (c.toNat % 2 ^ 1), (c.toNat / 2 ^ 1 % 2 ^ 2), 6, (c.toNat % 2 ^ 1), (c.toNat / 2 ^ 1 % 2 ^ 2), n + 1, d2, mkE_of ⟨rfl, rfl, rfl, rfl, rfl, trivial⟩, .inr ⟨by omega, rfl, rfl, rfl, rfl⟩, by decide, by omega, by omega, by omega, I2, h.to⟩, by show l.length - (i + 1) < l.length - i; omega⟩
          · skip
            refine WL.val run_move rfl rfl ?_
            refine WL.val (run_extract rfl rfl) rfl rfl ?_
            refine WL.val (run_extract rfl rfl) rfl rfl ?_
            refine WL.val (run_extract rfl rfl) rfl rfl ?_
            refine WL.eff (eff_alloc h Try.zeroValue73 rfl) rfl rfl ?_
            rintro _ w ⟨b11, rfl, h⟩
            refine WL.eff (eff_storeN (vs := [.int .u64 _, .int .i64 _, .int .i64 _]) h Try.sizeOf73 rfl rfl rfl rfl rfl (fun k _ _ => free0 k)) rfl rfl ?_
            rintro _ w h
            try simp only [splice, List.take_zero, List.take_succ_cons, List.take_nil, List.drop_succ_cons, List.drop_zero, List.drop_nil, List.nil_append, List.cons_append, List.append_nil, List.length_cons, List.length_nil, Nat.zero_add, Nat.reduceAdd] at h
            refine WL.val run_assign rfl rfl ?_
            refine WL.val run_assign rfl rfl ?_
            refine WL.nil ?_
            refine W.seq ?_
            refine W.seq ?_
            refine W.region ?_
            refine WL.val run_move rfl rfl ?_
            refine WL.val (run_neqF rfl rfl (rfl)) rfl rfl ?_
            refine WL.val run_move rfl rfl ?_
            refine WL.val run_move rfl rfl ?_
            refine WL.val run_move rfl rfl ?_
            refine WL.dec (run_lss rfl rfl) rfl rfl (fun c68 => ?_) (fun c68 => ?_)
            · skip
              refine WL.val run_move rfl rfl ?_
              refine WL.val (run_loadB (vs := [.int .u64 _, .int .i64 _, .int .i64 _]) h Try.isAgg73 Try.sizeOf73 rfl rfl rfl) rfl rfl ?_
              refine WL.eff (eff_call Try.call50 (right_ok (e := 6) h)) rfl rfl ?_
              rintro v0 w ⟨hv0, h⟩
              rw [decide_eq_false (show ¬ RightW (((c.toNat % 2 ^ 1) : Nat) : Int) (((c.toNat / 2 ^ 1 % 2 ^ 2) : Nat) : Int) from fun hr => hmay ⟨by omega, hr, rfl⟩)] at hv0
              subst hv0
              refine WL.val (run_pickT rfl) rfl rfl ?_
              refine WL.val (run_neqBool Try.underlying4 rfl rfl) rfl rfl ?_
              refine WL.val (run_pickF rfl) rfl rfl ?_
              refine WL.nil ?_
              refine W.condF rfl ?_
              refine W.skip ?_
              refine W.seq ?_
              refine W.seq ?_
              refine W.region ?_
              refine WL.val run_move rfl rfl ?_
              refine WL.nil ?_
              refine W.condF rfl ?_
              refine W.skip ?_
              refine W.seq ?_
              refine W.region ?_
              refine WL.val run_move rfl rfl ?_
              refine WL.val (run_geqF rfl rfl (by omega)) rfl rfl ?_
              refine WL.val run_move rfl rfl ?_
              refine WL.skip rfl rfl ?_
              refine WL.skip rfl rfl ?_
              refine WL.skip rfl rfl ?_
              refine WL.val (run_pickF rfl) rfl rfl ?_
              refine WL.val run_move rfl rfl ?_
              refine WL.val run_move rfl rfl ?_
              refine WL.val (run_lssT rfl rfl (by omega)) rfl rfl ?_
              refine WL.val run_move rfl rfl ?_
              refine WL.val (run_fieldAddr 0 Try.underlying73 rfl Try.sizeOf40 rfl rfl) rfl rfl ?_
              refine WL.val (run_load1 Try.isAgg40 rfl (h.cellB rfl)) rfl rfl ?_
              refine WL.val (run_neqF rfl rfl (by omega)) rfl rfl ?_
              refine WL.val (run_pickT rfl) rfl rfl ?_
              refine WL.val (run_pickF rfl) rfl rfl ?_
              refine WL.nil ?_
              refine W.condF rfl ?_
              refine W.skip ?_
              refine W.region ?_
              refine WL.val run_move rfl rfl ?_
              refine WL.val (run_add rfl rfl (by omega) (by omega)) rfl rfl ?_
              refine WL.val run_assign rfl rfl ?_
              refine WL.nil ?_
              -- round, path FFLTFT
              exact ⟨i + 1, ⟨by omega, _, won, e, p, m, qe, qp, qm, n, d, mkE_of ⟨rfl, rfl, rfl, rfl, rfl, trivial⟩, hrel, he7, by omega, hdn, by omega, I, h.to⟩, by show l.length - (i + 1) < l.length - i; omega⟩
            · skip
              refine WL.val run_move rfl rfl ?_
              refine WL.skip rfl rfl ?_
              refine WL.skip rfl rfl ?_
              refine WL.val (run_pickF rfl) rfl rfl ?_
              refine WL.val (run_neqBool Try.underlying4 rfl rfl) rfl rfl ?_
              refine WL.val (run_pickF rfl) rfl rfl ?_
              refine WL.nil ?_
              refine W.condF rfl ?_
              refine W.skip ?_
              refine W.seq ?_
              refine W.seq ?_
              refine W.region ?_
              refine WL.val run_move rfl rfl ?_
              refine WL.nil ?_
              refine W.condF rfl ?_
              refine W.skip ?_
              refine W.seq ?_
              refine W.region ?_
              refine WL.val run_move rfl rfl ?_
              refine WL.val (run_geqT rfl rfl (by omega)) rfl rfl ?_
              refine WL.val run_move rfl rfl ?_
              refine WL.val (run_loadB (vs := [.int .u64 _, .int .i64 _, .int .i64 _]) h Try.isAgg73 Try.sizeOf73 rfl rfl rfl) rfl rfl ?_
              refine WL.val (run_loadB (vs := [.int .u64 _, .int .i64 _, .int .i64 _]) h Try.isAgg73 Try.sizeOf73 rfl rfl rfl) rfl rfl ?_
              refine WL.val (val_false (run_neqI3 Try.underlying73 (by decide) (by decide) (by decide) rfl rfl rfl Try.underlying40 Try.underlying3 Try.underlying3 Try.isAgg40 Try.isAgg3 Try.isAgg3 (by kernel_rfl) (by kernel_rfl) rfl rfl) (fun hh => hh ⟨by omega, by omega, by omega⟩)) rfl rfl ?_
              refine WL.val (run_pickT rfl) rfl rfl ?_
              refine WL.val run_move rfl rfl ?_
              refine WL.val run_move rfl rfl ?_
              refine WL.val (run_lssF rfl rfl (by omega)) rfl rfl ?_
              refine WL.val run_move rfl rfl ?_
              refine WL.skip rfl rfl ?_
              refine WL.skip rfl rfl ?_
              refine WL.skip rfl rfl ?_
              refine WL.val (run_pickF rfl) rfl rfl ?_
              refine WL.val (run_pickF rfl) rfl rfl ?_
              refine WL.nil ?_
              refine W.condF rfl ?_
              refine W.skip ?_
              refine W.region ?_
              refine WL.val run_move rfl rfl ?_
              refine WL.val (run_add rfl rfl (by omega) (by omega)) rfl rfl ?_
              refine WL.val run_assign rfl rfl ?_
              refine WL.nil ?_
              -- round, path FFLTFF
              exact ⟨i + 1, ⟨by omega, _, won, e, p, m, qe, qp, qm, n, d, mkE_of ⟨rfl, rfl, rfl, rfl, rfl, trivial⟩, hrel, he7, by omega, hdn, by omega, I, h.to⟩, by show l.length - (i + 1) < l.length - i; omega⟩
        · skip
          refine W.exit ?_
          refine W.seq ?_
          refine W.draw Try.follows h (fun w h => ?_)
          refine WT.pure 0 rfl (by kernel_rfl) (fun w' => run_move) rfl rfl ?_
          refine WT.dec 1 rfl (by kernel_rfl) (fun w' => (run_lss rfl rfl)) rfl rfl (fun c95 => ?_) (fun c95 => ?_)
          · skip
            refine WT.pure 2 rfl (by kernel_rfl) (fun w' => run_move) rfl rfl ?_
            refine WT.skip 3 rfl (by kernel_rfl) rfl rfl ?_
            refine WT.skip 4 rfl (by kernel_rfl) rfl rfl ?_
            refine WT.skip 5 rfl (by kernel_rfl) rfl rfl ?_
            refine WT.skip 6 rfl (by kernel_rfl) rfl rfl ?_
            refine WT.pure 7 rfl (by kernel_rfl) (fun w' => (run_pickT rfl)) rfl rfl ?_
            refine WT.pure 8 rfl (by kernel_rfl) (fun w' => run_assign) rfl rfl ?_
            refine WT.done (by kernel_rfl) ?_
            refine W.ret ?_
            refine bodyQ.r1 (v := .bool _) Try.results11 rfl ?_
            -- path FFLFT
            exact ⟨rfl, h.to⟩
          · skip
            refine WT.pure 2 rfl (by kernel_rfl) (fun w' => run_move) rfl rfl ?_
            refine WT.pure 3 rfl (by kernel_rfl) (fun w' => run_move) rfl rfl ?_
            refine WT.loadN (vs := [.int .u64 _, .int .i64 _, .int .i64 _]) 5 rfl (by kernel_rfl) Try.isAgg73 Try.sizeOf73 rfl rfl (h.rowV (n := 3) rfl) rfl rfl ?_
            refine WT.eff 4 [true] rfl (by kernel_rfl) (by kernel_rfl) (eff_call Try.call51 (wget_ok (bw := bw) (bt := bt) (e := e) (p := p) (m := m) (h.fetch (blk bw [.pointer (some ⟨bt, 0, none⟩), .int .u64 (e : Int), .int .i64 (p : Int), .int .i64 (m : Int)] 140)))) rfl rfl ?_
            rintro _ w ⟨rfl, h⟩
            refine ⟨⟨(h.rowV (n := 3) rfl), trivial⟩, ?_⟩
            refine WT.pure 6 rfl (by kernel_rfl) (fun w' => (val_true (run_eqlI3 Try.underlying73 (by decide) (by decide) (by decide) rfl rfl rfl Try.underlying40 Try.underlying3 Try.underlying3 Try.isAgg40 Try.isAgg3 Try.isAgg3 (by kernel_rfl) (by kernel_rfl) rfl rfl) (⟨by omega, by omega, by omega⟩))) rfl rfl ?_
            refine WT.pure 7 rfl (by kernel_rfl) (fun w' => (run_pickF rfl)) rfl rfl ?_
            refine WT.pure 8 rfl (by kernel_rfl) (fun w' => run_assign) rfl rfl ?_
            refine WT.done (by kernel_rfl) ?_
            refine W.ret ?_
            refine bodyQ.r1 (v := .bool _) Try.results11 rfl ?_
            -- path FFLFF
            exact ⟨rfl, h.to⟩

end Go.Proofs.Ytlahgihjjabgmaa
