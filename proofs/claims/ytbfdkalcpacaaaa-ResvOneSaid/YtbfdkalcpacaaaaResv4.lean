/-
  The contracts of reservations. Lines of walks printed by a program of the prover's.
-/
import Derived.Test.YtbfdkalcpacaaaaResv3
import Derived.Test.YtbfdkalcpacaaaaResvModel
namespace Go.Proofs.Ytbfdkalcpacaaaa
open Go Go.Sl Go.Sl.RsM
set_option linter.unusedVariables false
set_option linter.unusedSimpArgs false
set_option maxHeartbeats 1000000
set_option maxRecDepth 8000
variable {W0 w : World} {L F : List HProp}

theorem rno_ok {x : Int} (h : On W0 L w) : Calls Try.prog 59 #[.int .i64 x] w (Ret fun v w' => v = .bool (!hostB x) ∧ On W0 L w') := by
  refine enter Try.func59 rfl Try.ntmps59 rfl ?_
  refine W.seq ?_
  refine W.region ?_
  refine WL.val run_assign rfl rfl ?_
  refine WL.nil ?_
  refine W.seq ?_
  refine W.region ?_
  refine WL.val run_move rfl rfl ?_
  refine WL.dec (run_lss rfl rfl) rfl rfl (fun c4 => ?_) (fun c4 => ?_)
  · skip
    refine WL.val run_move rfl rfl ?_
    refine WL.skip rfl rfl ?_
    refine WL.skip rfl rfl ?_
    refine WL.val (run_pickT rfl) rfl rfl ?_
    refine WL.val run_assign rfl rfl ?_
    refine WL.nil ?_
    refine W.ret ?_
    refine bodyQ.r1 (v := .bool _) Try.results59 rfl ?_
    -- path T
    exact ⟨by rw [hostB_no.2 (by omega)]; rfl, h⟩
  · skip
    refine WL.val run_move rfl rfl ?_
    refine WL.val run_move rfl rfl ?_
    refine WL.dec (run_geq rfl rfl) rfl rfl (fun c7 => ?_) (fun c7 => ?_)
    · skip
      refine WL.val (run_pickF rfl) rfl rfl ?_
      refine WL.val run_assign rfl rfl ?_
      refine WL.nil ?_
      refine W.ret ?_
      refine bodyQ.r1 (v := .bool _) Try.results59 rfl ?_
      -- path FT
      exact ⟨by rw [hostB_no.2 (by omega)]; rfl, h⟩
    · skip
      refine WL.val (run_pickF rfl) rfl rfl ?_
      refine WL.val run_assign rfl rfl ?_
      refine WL.nil ?_
      refine W.ret ?_
      refine bodyQ.r1 (v := .bool _) Try.results59 rfl ?_
      -- path FF
      exact ⟨by rw [hostB_iff.2 ⟨by omega, by omega⟩]; rfl, h⟩

theorem rwrong_ok {x : Int} (h : On W0 L w) : Calls Try.prog 60 #[.int .i64 x] w (Ret fun v w' => v = rep 2 5 x ∧ On W0 L w') := by
  refine enter Try.func60 rfl Try.ntmps60 rfl ?_
  refine W.seq ?_
  refine W.region ?_
  refine WL.eff (eff_alloc h Try.zeroValue28 rfl) rfl rfl ?_
  rintro _ w ⟨b2, rfl, h⟩
  refine WL.nil ?_
  refine W.seq ?_
  refine W.region ?_
  refine WL.val run_move rfl rfl ?_
  refine WL.val (run_buildS (pl := [(0, 1), (1, 1), (2, 1), (3, 1), (4, 1)]) (out := [.int .i64 _, .int .i64 _, .int .i64 _, .slice _ _ _, .int .i64 _]) Try.underlying28 Try.zeroValue28 (fun w => by kernel_rfl) rfl (⟨⟨_, _, rfl, rfl, by decide⟩, ⟨⟨_, _, rfl, rfl, by decide⟩, ⟨⟨_, _, rfl, rfl, by decide⟩, trivial⟩⟩⟩) rfl) rfl rfl ?_
  refine WL.eff (eff_storeN (vs := [.int .i64 _, .int .i64 _, .int .i64 _, .slice _ _ _, .int .i64 _]) h Try.sizeOf28 rfl rfl rfl rfl rfl (fun k _ _ => free0 k)) rfl rfl ?_
  rintro _ w h
  try simp only [splice, List.take_zero, List.take_succ_cons, List.take_nil, List.drop_succ_cons, List.drop_zero, List.drop_nil, List.nil_append, List.cons_append, List.append_nil, List.length_cons, List.length_nil, Nat.zero_add, Nat.reduceAdd] at h
  refine WL.nil ?_
  refine W.ret ?_
  refine bodyQ.rcB (vs := [.int .i64 _, .int .i64 _, .int .i64 _, .slice _ _ _, .int .i64 _]) h Try.results60 Try.isAgg28 Try.sizeOf28 rfl rfl rfl ?_
  -- path 
  exact ⟨rfl, h.tail⟩

theorem rconflict_ok (h : On W0 L w) : Calls Try.prog 61 #[] w (Ret fun v w' => v = rep 24 0 0 ∧ On W0 L w') := by
  refine enter Try.func61 rfl Try.ntmps61 rfl ?_
  refine W.seq ?_
  refine W.region ?_
  refine WL.eff (eff_alloc h Try.zeroValue28 rfl) rfl rfl ?_
  rintro _ w ⟨b0, rfl, h⟩
  refine WL.nil ?_
  refine W.seq ?_
  refine W.region ?_
  refine WL.val (run_buildS (pl := [(0, 1), (1, 1), (2, 1), (3, 1), (4, 1)]) (out := [.int .i64 _, .int .i64 _, .int .i64 _, .slice _ _ _, .int .i64 _]) Try.underlying28 Try.zeroValue28 (fun w => by kernel_rfl) rfl (⟨⟨_, _, rfl, rfl, by decide⟩, trivial⟩) rfl) rfl rfl ?_
  refine WL.eff (eff_storeN (vs := [.int .i64 _, .int .i64 _, .int .i64 _, .slice _ _ _, .int .i64 _]) h Try.sizeOf28 rfl rfl rfl rfl rfl (fun k _ _ => free0 k)) rfl rfl ?_
  rintro _ w h
  try simp only [splice, List.take_zero, List.take_succ_cons, List.take_nil, List.drop_succ_cons, List.drop_zero, List.drop_nil, List.nil_append, List.cons_append, List.append_nil, List.length_cons, List.length_nil, Nat.zero_add, Nat.reduceAdd] at h
  refine WL.nil ?_
  refine W.ret ?_
  refine bodyQ.rcB (vs := [.int .i64 _, .int .i64 _, .int .i64 _, .slice _ _ _, .int .i64 _]) h Try.results61 Try.isAgg28 Try.sizeOf28 rfl rfl rfl ?_
  -- path 
  exact ⟨rfl, h.tail⟩

theorem rgood_ok (h : On W0 L w) : Calls Try.prog 62 #[] w (Ret fun v w' => v = rep 0 0 0 ∧ On W0 L w') := by
  refine enter Try.func62 rfl Try.ntmps62 rfl ?_
  refine W.seq ?_
  refine W.region ?_
  refine WL.eff (eff_alloc h Try.zeroValue28 rfl) rfl rfl ?_
  rintro _ w ⟨b0, rfl, h⟩
  refine WL.nil ?_
  refine W.seq ?_
  refine W.region ?_
  refine WL.val (run_buildS (pl := [(0, 1), (1, 1), (2, 1), (3, 1), (4, 1)]) (out := [.int .i64 _, .int .i64 _, .int .i64 _, .slice _ _ _, .int .i64 _]) Try.underlying28 Try.zeroValue28 (fun w => by kernel_rfl) rfl (trivial) rfl) rfl rfl ?_
  refine WL.eff (eff_storeN (vs := [.int .i64 _, .int .i64 _, .int .i64 _, .slice _ _ _, .int .i64 _]) h Try.sizeOf28 rfl rfl rfl rfl rfl (fun k _ _ => free0 k)) rfl rfl ?_
  rintro _ w h
  try simp only [splice, List.take_zero, List.take_succ_cons, List.take_nil, List.drop_succ_cons, List.drop_zero, List.drop_nil, List.nil_append, List.cons_append, List.append_nil, List.length_cons, List.length_nil, Nat.zero_add, Nat.reduceAdd] at h
  refine WL.nil ?_
  refine W.ret ?_
  refine bodyQ.rcB (vs := [.int .i64 _, .int .i64 _, .int .i64 _, .slice _ _ _, .int .i64 _]) h Try.results62 Try.isAgg28 Try.sizeOf28 rfl rfl rfl ?_
  -- path 
  exact ⟨rfl, h.tail⟩

theorem refnew_ok (h : On W0 L w) : Calls Try.prog 17 #[] w (Ret fun v w' => ∃ b', v = .pointer (some ⟨b', 0, none⟩) ∧ On W0 (blk b' newT.cells 88 :: L) w') := by
  refine enter Try.func17 rfl Try.ntmps17 rfl ?_
  refine W.seq ?_
  refine W.region ?_
  refine WL.val run_assign rfl rfl ?_
  refine WL.nil ?_
  refine W.seq ?_
  refine W.region ?_
  refine WL.val (run_buildS (pl := [(0, 8), (8, 1), (9, 1), (10, 1)]) (out := [.int .u64 _, .int .u64 _, .int .u64 _, .int .u64 _, .int .u64 _, .int .u64 _, .int .u64 _, .int .u64 _, .int .i64 _, .int .i64 _, .int .u32 _]) Try.underlying88 Try.zeroValue88 (fun w => by kernel_rfl) rfl (⟨⟨_, _, rfl, rfl, by decide⟩, trivial⟩) rfl) rfl rfl ?_
  refine WL.eff (eff_box (v := .agg _) (l := [.int .u64 _, .int .u64 _, .int .u64 _, .int .u64 _, .int .u64 _, .int .u64 _, .int .u64 _, .int .u64 _, .int .i64 _, .int .i64 _, .int .u32 _]) h rfl rfl) rfl rfl ?_
  rintro _ w ⟨b2, rfl, h⟩
  refine WL.val run_assign rfl rfl ?_
  refine WL.nil ?_
  refine W.ret ?_
  refine bodyQ.r1 (v := .pointer _) Try.results17 rfl ?_
  -- path 
  exact ⟨_, rfl, h⟩

theorem rnot_ok {b' i : Nat} {key : Int} (hi : i < 8) (h : On W0 L w) [HasBlk L b' newT.cells 88 (0, 0)] : Calls Try.prog 64 #[.pointer (some ⟨b', 0, none⟩), .int .i64 (i : Int), .int .u64 key] w (Ret fun v w' => v = .bool true ∧ On W0 L w') := by
  refine enter Try.func64 rfl Try.ntmps64 rfl ?_
  refine W.seq ?_
  refine W.region ?_
  refine WL.val run_assign rfl rfl ?_
  refine WL.nil ?_
  refine W.seq ?_
  refine W.region ?_
  refine WL.val run_move rfl rfl ?_
  refine WL.val run_move rfl rfl ?_
  refine WL.val (run_nilCheck rfl) rfl rfl ?_
  refine WL.val (run_fieldAddr 0 Try.underlying88 rfl Try.sizeOf67 rfl rfl) rfl rfl ?_
  refine WL.val (run_indexAddrArr Try.underlying67 Try.sizeOf32 rfl rfl (by omega) (by omega)) rfl rfl ?_
  refine WL.val (run_load1 Try.isAgg32 rfl (h.cellB (cells_at (t := newT) hi))) rfl rfl ?_
  refine WL.val (run_eqlT rfl rfl (rfl)) rfl rfl ?_
  refine WL.val run_move rfl rfl ?_
  refine WL.skip rfl rfl ?_
  refine WL.skip rfl rfl ?_
  refine WL.skip rfl rfl ?_
  refine WL.skip rfl rfl ?_
  refine WL.skip rfl rfl ?_
  refine WL.skip rfl rfl ?_
  refine WL.skip rfl rfl ?_
  refine WL.skip rfl rfl ?_
  refine WL.val (run_pickT rfl) rfl rfl ?_
  refine WL.val run_assign rfl rfl ?_
  refine WL.nil ?_
  refine W.ret ?_
  refine bodyQ.r1 (v := .bool _) Try.results64 rfl ?_
  -- path 
  exact ⟨rfl, h⟩

theorem rreserve_ok {b' : Nat} {hh key typ : Int} (h : On W0 (blk b' newT.cells 88 :: L) w) : Calls Try.prog 41 #[.pointer (some ⟨b', 0, none⟩), .int .i64 hh, .int .u64 key, .int .i64 typ] w (Ret fun v w' => ∃ s k c, v = rep s k c ∧ On W0 L w') := by
  refine enter Try.func41 rfl Try.ntmps41 rfl ?_
  refine W.seq ?_
  refine W.region ?_
  refine WL.eff (eff_alloc h Try.zeroValue28 rfl) rfl rfl ?_
  rintro _ w ⟨b8, rfl, h⟩
  refine WL.nil ?_
  refine W.seq ?_
  refine W.block ?_
  refine W.seq ?_
  refine W.region ?_
  refine WL.val run_move rfl rfl ?_
  refine WL.eff (eff_call Try.call59 (rno_ok h)) rfl rfl ?_
  rintro _ w ⟨hv, h⟩
  have hcs := Bool.eq_false_or_eq_true (hostB hh)
  rcases hcs with hb | hb <;> (rw [hb] at hv; have hv2 : _ = Value.bool _ := hv; subst hv2)
  rotate_left
  · skip
    refine WL.val run_assign rfl rfl ?_
    refine WL.nil ?_
    refine W.condT rfl ?_
    refine W.seq ?_
    refine W.region ?_
    refine WL.eff (eff_call Try.call60 (rwrong_ok h)) rfl rfl ?_
    rintro _ w ⟨rfl, h⟩
    refine WL.eff (eff_storeN (vs := [.int .i64 _, .int .i64 _, .int .i64 _, .slice _ _ _, .int .i64 _]) h Try.sizeOf28 rfl rfl rfl rfl rfl (fun k _ _ => free0 k)) rfl rfl ?_
    rintro _ w h
    try simp only [splice, List.take_zero, List.take_succ_cons, List.take_nil, List.drop_succ_cons, List.drop_zero, List.drop_nil, List.nil_append, List.cons_append, List.append_nil, List.length_cons, List.length_nil, Nat.zero_add, Nat.reduceAdd] at h
    refine WL.nil ?_
    refine W.ret ?_
    refine bodyQ.rcB (vs := [.int .i64 _, .int .i64 _, .int .i64 _, .slice _ _ _, .int .i64 _]) h Try.results41 Try.isAgg28 Try.sizeOf28 rfl rfl rfl ?_
    -- path T
    exact ⟨2, 5, 9216, rfl, h.to⟩
  · skip
    refine WL.val run_assign rfl rfl ?_
    refine WL.nil ?_
    refine W.condF rfl ?_
    refine W.seq ?_
    have ob_ := hostB_iff.1 hb
    obtain ⟨hi0, hi8⟩ := ob_
    have ob_ := Int.eq_ofNat_of_zero_le hi0
    obtain ⟨i, rfl⟩ := ob_
    have hi : i < 8 := by omega
    refine W.region ?_
    refine WL.val run_move rfl rfl ?_
    refine WL.val run_move rfl rfl ?_
    refine WL.val run_move rfl rfl ?_
    refine WL.eff (eff_call Try.call64 (rnot_ok hi h)) rfl rfl ?_
    rintro _ w ⟨rfl, h⟩
    refine WL.val run_assign rfl rfl ?_
    refine WL.nil ?_
    refine W.condT rfl ?_
    refine W.seq ?_
    refine W.region ?_
    refine WL.eff (eff_call Try.call61 (rconflict_ok h)) rfl rfl ?_
    rintro _ w ⟨rfl, h⟩
    refine WL.eff (eff_storeN (vs := [.int .i64 _, .int .i64 _, .int .i64 _, .slice _ _ _, .int .i64 _]) h Try.sizeOf28 rfl rfl rfl rfl rfl (fun k _ _ => free0 k)) rfl rfl ?_
    rintro _ w h
    try simp only [splice, List.take_zero, List.take_succ_cons, List.take_nil, List.drop_succ_cons, List.drop_zero, List.drop_nil, List.nil_append, List.cons_append, List.append_nil, List.length_cons, List.length_nil, Nat.zero_add, Nat.reduceAdd] at h
    refine WL.nil ?_
    refine W.ret ?_
    refine bodyQ.rcB (vs := [.int .i64 _, .int .i64 _, .int .i64 _, .slice _ _ _, .int .i64 _]) h Try.results41 Try.isAgg28 Try.sizeOf28 rfl rfl rfl ?_
    -- path F
    exact ⟨24, 0, 0, rfl, h.to⟩

theorem rrelease_ok {b' : Nat} {hh key typ : Int} (h : On W0 (blk b' newT.cells 88 :: L) w) : Calls Try.prog 42 #[.pointer (some ⟨b', 0, none⟩), .int .i64 hh, .int .u64 key, .int .i64 typ] w (Ret fun v w' => ∃ s k c, v = .tuple #[rep s k c, .slice none 0 0] ∧ On W0 L w') := by
  refine enter Try.func42 rfl Try.ntmps42 rfl ?_
  refine W.seq ?_
  refine W.region ?_
  refine WL.eff (eff_alloc h Try.zeroValue28 rfl) rfl rfl ?_
  rintro _ w ⟨b8, rfl, h⟩
  refine WL.val run_assign rfl rfl ?_
  refine WL.nil ?_
  refine W.seq ?_
  refine W.block ?_
  refine W.seq ?_
  refine W.region ?_
  refine WL.val run_move rfl rfl ?_
  refine WL.eff (eff_call Try.call59 (rno_ok h)) rfl rfl ?_
  rintro _ w ⟨hv, h⟩
  have hcs := Bool.eq_false_or_eq_true (hostB hh)
  rcases hcs with hb | hb <;> (rw [hb] at hv; have hv2 : _ = Value.bool _ := hv; subst hv2)
  rotate_left
  · skip
    refine WL.val run_assign rfl rfl ?_
    refine WL.nil ?_
    refine W.condT rfl ?_
    refine W.seq ?_
    refine W.region ?_
    refine WL.eff (eff_call Try.call60 (rwrong_ok h)) rfl rfl ?_
    rintro _ w ⟨rfl, h⟩
    refine WL.eff (eff_storeN (vs := [.int .i64 _, .int .i64 _, .int .i64 _, .slice _ _ _, .int .i64 _]) h Try.sizeOf28 rfl rfl rfl rfl rfl (fun k _ _ => free0 k)) rfl rfl ?_
    rintro _ w h
    try simp only [splice, List.take_zero, List.take_succ_cons, List.take_nil, List.drop_succ_cons, List.drop_zero, List.drop_nil, List.nil_append, List.cons_append, List.append_nil, List.length_cons, List.length_nil, Nat.zero_add, Nat.reduceAdd] at h
    refine WL.val run_assign rfl rfl ?_
    refine WL.nil ?_
    refine W.ret ?_
    refine bodyQ.rctB (vs := [.int .i64 _, .int .i64 _, .int .i64 _, .slice _ _ _, .int .i64 _]) (v2 := .slice _ _ _) h Try.results42 Try.isAgg28 Try.sizeOf28 rfl rfl rfl rfl ?_
    -- path T
    exact ⟨2, 5, 9216, rfl, h.to⟩
  · skip
    refine WL.val run_assign rfl rfl ?_
    refine WL.nil ?_
    refine W.condF rfl ?_
    refine W.seq ?_
    have ob_ := hostB_iff.1 hb
    obtain ⟨hi0, hi8⟩ := ob_
    have ob_ := Int.eq_ofNat_of_zero_le hi0
    obtain ⟨i, rfl⟩ := ob_
    have hi : i < 8 := by omega
    refine W.region ?_
    refine WL.val run_move rfl rfl ?_
    refine WL.val run_move rfl rfl ?_
    refine WL.val run_move rfl rfl ?_
    refine WL.eff (eff_call Try.call64 (rnot_ok hi h)) rfl rfl ?_
    rintro _ w ⟨rfl, h⟩
    refine WL.val run_assign rfl rfl ?_
    refine WL.nil ?_
    refine W.condT rfl ?_
    refine W.seq ?_
    refine W.region ?_
    refine WL.eff (eff_call Try.call61 (rconflict_ok h)) rfl rfl ?_
    rintro _ w ⟨rfl, h⟩
    refine WL.eff (eff_storeN (vs := [.int .i64 _, .int .i64 _, .int .i64 _, .slice _ _ _, .int .i64 _]) h Try.sizeOf28 rfl rfl rfl rfl rfl (fun k _ _ => free0 k)) rfl rfl ?_
    rintro _ w h
    try simp only [splice, List.take_zero, List.take_succ_cons, List.take_nil, List.drop_succ_cons, List.drop_zero, List.drop_nil, List.nil_append, List.cons_append, List.append_nil, List.length_cons, List.length_nil, Nat.zero_add, Nat.reduceAdd] at h
    refine WL.val run_assign rfl rfl ?_
    refine WL.nil ?_
    refine W.ret ?_
    refine bodyQ.rctB (vs := [.int .i64 _, .int .i64 _, .int .i64 _, .slice _ _ _, .int .i64 _]) (v2 := .slice _ _ _) h Try.results42 Try.isAgg28 Try.sizeOf28 rfl rfl rfl rfl ?_
    -- path F
    exact ⟨24, 0, 0, rfl, h.to⟩

theorem rclear_ok {b' : Nat} {hh key : Int} (h : On W0 (blk b' newT.cells 88 :: L) w) : Calls Try.prog 43 #[.pointer (some ⟨b', 0, none⟩), .int .i64 hh, .int .u64 key] w (Ret fun v w' => ∃ s k c, v = .tuple #[rep s k c, .slice none 0 0] ∧ On W0 L w') := by
  refine enter Try.func43 rfl Try.ntmps43 rfl ?_
  refine W.seq ?_
  refine W.region ?_
  refine WL.eff (eff_alloc h Try.zeroValue28 rfl) rfl rfl ?_
  rintro _ w ⟨b6, rfl, h⟩
  refine WL.val run_assign rfl rfl ?_
  refine WL.nil ?_
  refine W.seq ?_
  refine W.block ?_
  refine W.seq ?_
  refine W.region ?_
  refine WL.val run_move rfl rfl ?_
  refine WL.eff (eff_call Try.call59 (rno_ok h)) rfl rfl ?_
  rintro _ w ⟨hv, h⟩
  have hcs := Bool.eq_false_or_eq_true (hostB hh)
  rcases hcs with hb | hb <;> (rw [hb] at hv; have hv2 : _ = Value.bool _ := hv; subst hv2)
  rotate_left
  · skip
    refine WL.val run_assign rfl rfl ?_
    refine WL.nil ?_
    refine W.condT rfl ?_
    refine W.seq ?_
    refine W.region ?_
    refine WL.eff (eff_call Try.call60 (rwrong_ok h)) rfl rfl ?_
    rintro _ w ⟨rfl, h⟩
    refine WL.eff (eff_storeN (vs := [.int .i64 _, .int .i64 _, .int .i64 _, .slice _ _ _, .int .i64 _]) h Try.sizeOf28 rfl rfl rfl rfl rfl (fun k _ _ => free0 k)) rfl rfl ?_
    rintro _ w h
    try simp only [splice, List.take_zero, List.take_succ_cons, List.take_nil, List.drop_succ_cons, List.drop_zero, List.drop_nil, List.nil_append, List.cons_append, List.append_nil, List.length_cons, List.length_nil, Nat.zero_add, Nat.reduceAdd] at h
    refine WL.val run_assign rfl rfl ?_
    refine WL.nil ?_
    refine W.ret ?_
    refine bodyQ.rctB (vs := [.int .i64 _, .int .i64 _, .int .i64 _, .slice _ _ _, .int .i64 _]) (v2 := .slice _ _ _) h Try.results43 Try.isAgg28 Try.sizeOf28 rfl rfl rfl rfl ?_
    -- path T
    exact ⟨2, 5, 9216, rfl, h.to⟩
  · skip
    refine WL.val run_assign rfl rfl ?_
    refine WL.nil ?_
    refine W.condF rfl ?_
    refine W.seq ?_
    have ob_ := hostB_iff.1 hb
    obtain ⟨hi0, hi8⟩ := ob_
    have ob_ := Int.eq_ofNat_of_zero_le hi0
    obtain ⟨i, rfl⟩ := ob_
    have hi : i < 8 := by omega
    refine W.region ?_
    refine WL.val run_move rfl rfl ?_
    refine WL.val run_move rfl rfl ?_
    refine WL.val run_move rfl rfl ?_
    refine WL.eff (eff_call Try.call64 (rnot_ok hi h)) rfl rfl ?_
    rintro _ w ⟨rfl, h⟩
    refine WL.val run_assign rfl rfl ?_
    refine WL.nil ?_
    refine W.condT rfl ?_
    refine W.seq ?_
    refine W.region ?_
    refine WL.eff (eff_call Try.call61 (rconflict_ok h)) rfl rfl ?_
    rintro _ w ⟨rfl, h⟩
    refine WL.eff (eff_storeN (vs := [.int .i64 _, .int .i64 _, .int .i64 _, .slice _ _ _, .int .i64 _]) h Try.sizeOf28 rfl rfl rfl rfl rfl (fun k _ _ => free0 k)) rfl rfl ?_
    rintro _ w h
    try simp only [splice, List.take_zero, List.take_succ_cons, List.take_nil, List.drop_succ_cons, List.drop_zero, List.drop_nil, List.nil_append, List.cons_append, List.append_nil, List.length_cons, List.length_nil, Nat.zero_add, Nat.reduceAdd] at h
    refine WL.val run_assign rfl rfl ?_
    refine WL.nil ?_
    refine W.ret ?_
    refine bodyQ.rctB (vs := [.int .i64 _, .int .i64 _, .int .i64 _, .slice _ _ _, .int .i64 _]) (v2 := .slice _ _ _) h Try.results43 Try.isAgg28 Try.sizeOf28 rfl rfl rfl rfl ?_
    -- path F
    exact ⟨24, 0, 0, rfl, h.to⟩

theorem rpreempt_ok {b' : Nat} {hh key other typ : Int} (h : On W0 (blk b' newT.cells 88 :: L) w) : Calls Try.prog 44 #[.pointer (some ⟨b', 0, none⟩), .int .i64 hh, .int .u64 key, .int .u64 other, .int .i64 typ] w (Ret fun v w' => ∃ s k c, v = .tuple #[rep s k c, .slice none 0 0] ∧ On W0 L w') := by
  refine enter Try.func44 rfl Try.ntmps44 rfl ?_
  refine W.seq ?_
  refine W.region ?_
  refine WL.eff (eff_alloc h Try.zeroValue28 rfl) rfl rfl ?_
  rintro _ w ⟨b10, rfl, h⟩
  refine WL.val run_assign rfl rfl ?_
  refine WL.nil ?_
  refine W.seq ?_
  refine W.block ?_
  refine W.seq ?_
  refine W.region ?_
  refine WL.val run_move rfl rfl ?_
  refine WL.eff (eff_call Try.call59 (rno_ok h)) rfl rfl ?_
  rintro _ w ⟨hv, h⟩
  have hcs := Bool.eq_false_or_eq_true (hostB hh)
  rcases hcs with hb | hb <;> (rw [hb] at hv; have hv2 : _ = Value.bool _ := hv; subst hv2)
  rotate_left
  · skip
    refine WL.val run_assign rfl rfl ?_
    refine WL.nil ?_
    refine W.condT rfl ?_
    refine W.seq ?_
    refine W.region ?_
    refine WL.eff (eff_call Try.call60 (rwrong_ok h)) rfl rfl ?_
    rintro _ w ⟨rfl, h⟩
    refine WL.eff (eff_storeN (vs := [.int .i64 _, .int .i64 _, .int .i64 _, .slice _ _ _, .int .i64 _]) h Try.sizeOf28 rfl rfl rfl rfl rfl (fun k _ _ => free0 k)) rfl rfl ?_
    rintro _ w h
    try simp only [splice, List.take_zero, List.take_succ_cons, List.take_nil, List.drop_succ_cons, List.drop_zero, List.drop_nil, List.nil_append, List.cons_append, List.append_nil, List.length_cons, List.length_nil, Nat.zero_add, Nat.reduceAdd] at h
    refine WL.val run_assign rfl rfl ?_
    refine WL.nil ?_
    refine W.ret ?_
    refine bodyQ.rctB (vs := [.int .i64 _, .int .i64 _, .int .i64 _, .slice _ _ _, .int .i64 _]) (v2 := .slice _ _ _) h Try.results44 Try.isAgg28 Try.sizeOf28 rfl rfl rfl rfl ?_
    -- path T
    exact ⟨2, 5, 9216, rfl, h.to⟩
  · skip
    refine WL.val run_assign rfl rfl ?_
    refine WL.nil ?_
    refine W.condF rfl ?_
    refine W.seq ?_
    have ob_ := hostB_iff.1 hb
    obtain ⟨hi0, hi8⟩ := ob_
    have ob_ := Int.eq_ofNat_of_zero_le hi0
    obtain ⟨i, rfl⟩ := ob_
    have hi : i < 8 := by omega
    refine W.region ?_
    refine WL.val run_move rfl rfl ?_
    refine WL.val run_move rfl rfl ?_
    refine WL.val run_move rfl rfl ?_
    refine WL.eff (eff_call Try.call64 (rnot_ok hi h)) rfl rfl ?_
    rintro _ w ⟨rfl, h⟩
    refine WL.val run_assign rfl rfl ?_
    refine WL.nil ?_
    refine W.condT rfl ?_
    refine W.seq ?_
    refine W.region ?_
    refine WL.eff (eff_call Try.call61 (rconflict_ok h)) rfl rfl ?_
    rintro _ w ⟨rfl, h⟩
    refine WL.eff (eff_storeN (vs := [.int .i64 _, .int .i64 _, .int .i64 _, .slice _ _ _, .int .i64 _]) h Try.sizeOf28 rfl rfl rfl rfl rfl (fun k _ _ => free0 k)) rfl rfl ?_
    rintro _ w h
    try simp only [splice, List.take_zero, List.take_succ_cons, List.take_nil, List.drop_succ_cons, List.drop_zero, List.drop_nil, List.nil_append, List.cons_append, List.append_nil, List.length_cons, List.length_nil, Nat.zero_add, Nat.reduceAdd] at h
    refine WL.val run_assign rfl rfl ?_
    refine WL.nil ?_
    refine W.ret ?_
    refine bodyQ.rctB (vs := [.int .i64 _, .int .i64 _, .int .i64 _, .slice _ _ _, .int .i64 _]) (v2 := .slice _ _ _) h Try.results44 Try.isAgg28 Try.sizeOf28 rfl rfl rfl rfl ?_
    -- path F
    exact ⟨24, 0, 0, rfl, h.to⟩

theorem rregister_ok {b' : Nat} {hh key fresh : Int} {ign : Bool} (h : On W0 (blk b' newT.cells 88 :: L) w) : Calls Try.prog 40 #[.pointer (some ⟨b', 0, none⟩), .int .i64 hh, .int .u64 key, .int .u64 fresh, .bool ign] w (Ret fun v w' => ∃ s k c, v = .tuple #[rep s k c, .slice none 0 0] ∧ On W0 L w') := by
  refine enter Try.func40 rfl Try.ntmps40 rfl ?_
  refine W.seq ?_
  refine W.region ?_
  refine WL.eff (eff_alloc h Try.zeroValue28 rfl) rfl rfl ?_
  rintro _ w ⟨b10, rfl, h⟩
  refine WL.val run_assign rfl rfl ?_
  refine WL.nil ?_
  refine W.seq ?_
  refine W.seq ?_
  refine W.region ?_
  refine WL.val run_move rfl rfl ?_
  refine WL.eff (eff_call Try.call59 (rno_ok h)) rfl rfl ?_
  rintro _ w ⟨hv, h⟩
  have hcs := Bool.eq_false_or_eq_true (hostB hh)
  rcases hcs with hb | hb <;> (rw [hb] at hv; have hv2 : _ = Value.bool _ := hv; subst hv2)
  rotate_left
  · skip
    refine WL.nil ?_
    refine W.condT rfl ?_
    refine W.seq ?_
    refine W.region ?_
    refine WL.eff (eff_call Try.call60 (rwrong_ok h)) rfl rfl ?_
    rintro _ w ⟨rfl, h⟩
    refine WL.eff (eff_storeN (vs := [.int .i64 _, .int .i64 _, .int .i64 _, .slice _ _ _, .int .i64 _]) h Try.sizeOf28 rfl rfl rfl rfl rfl (fun k _ _ => free0 k)) rfl rfl ?_
    rintro _ w h
    try simp only [splice, List.take_zero, List.take_succ_cons, List.take_nil, List.drop_succ_cons, List.drop_zero, List.drop_nil, List.nil_append, List.cons_append, List.append_nil, List.length_cons, List.length_nil, Nat.zero_add, Nat.reduceAdd] at h
    refine WL.val run_assign rfl rfl ?_
    refine WL.nil ?_
    refine W.ret ?_
    refine bodyQ.rctB (vs := [.int .i64 _, .int .i64 _, .int .i64 _, .slice _ _ _, .int .i64 _]) (v2 := .slice _ _ _) h Try.results40 Try.isAgg28 Try.sizeOf28 rfl rfl rfl rfl ?_
    -- path T
    exact ⟨2, 5, 9216, rfl, h.to⟩
  · skip
    refine WL.nil ?_
    refine W.condF rfl ?_
    refine W.skip ?_
    refine W.seq ?_
    refine W.seq ?_
    have ob_ := hostB_iff.1 hb
    obtain ⟨hi0, hi8⟩ := ob_
    have ob_ := Int.eq_ofNat_of_zero_le hi0
    obtain ⟨i, rfl⟩ := ob_
    have hi : i < 8 := by omega
    refine W.region ?_
    refine WL.val run_move rfl rfl ?_
    refine WL.boolB (run_not rfl) rfl rfl (fun c16 => ?_) (fun c16 => ?_)
    · skip
      refine WL.val run_move rfl rfl ?_
      refine WL.val run_move rfl rfl ?_
      refine WL.val run_move rfl rfl ?_
      refine WL.val (run_nilCheck rfl) rfl rfl ?_
      refine WL.val (run_fieldAddr 0 Try.underlying88 rfl Try.sizeOf67 rfl rfl) rfl rfl ?_
      refine WL.val (run_indexAddrArr Try.underlying67 Try.sizeOf32 rfl rfl (by omega) (by omega)) rfl rfl ?_
      refine WL.val (run_load1 Try.isAgg32 rfl (h.cellB (cells_at (t := newT) hi))) rfl rfl ?_
      refine WL.val run_move rfl rfl ?_
      refine WL.val (run_neq rfl rfl) rfl rfl ?_
      refine WL.val (run_pickT rfl) rfl rfl ?_
      refine WL.nil ?_
      refine W.condIf rfl (fun c7 => ?_) (fun c7 => ?_)
      · skip
        refine W.seq ?_
        refine W.region ?_
        refine WL.eff (eff_call Try.call61 (rconflict_ok h)) rfl rfl ?_
        rintro _ w ⟨rfl, h⟩
        refine WL.eff (eff_storeN (vs := [.int .i64 _, .int .i64 _, .int .i64 _, .slice _ _ _, .int .i64 _]) h Try.sizeOf28 rfl rfl rfl rfl rfl (fun k _ _ => free0 k)) rfl rfl ?_
        rintro _ w h
        try simp only [splice, List.take_zero, List.take_succ_cons, List.take_nil, List.drop_succ_cons, List.drop_zero, List.drop_nil, List.nil_append, List.cons_append, List.append_nil, List.length_cons, List.length_nil, Nat.zero_add, Nat.reduceAdd] at h
        refine WL.val run_assign rfl rfl ?_
        refine WL.nil ?_
        refine W.ret ?_
        refine bodyQ.rctB (vs := [.int .i64 _, .int .i64 _, .int .i64 _, .slice _ _ _, .int .i64 _]) (v2 := .slice _ _ _) h Try.results40 Try.isAgg28 Try.sizeOf28 rfl rfl rfl rfl ?_
        -- path FTT
        exact ⟨24, 0, 0, rfl, h.to⟩
      · skip
        refine W.skip ?_
        refine W.seq ?_
        refine W.region ?_
        refine WL.val run_move rfl rfl ?_
        refine WL.val run_move rfl rfl ?_
        refine WL.val run_move rfl rfl ?_
        refine WL.val (run_nilCheck rfl) rfl rfl ?_
        refine WL.val (run_fieldAddr 0 Try.underlying88 rfl Try.sizeOf67 rfl rfl) rfl rfl ?_
        refine WL.val (run_indexAddrArr Try.underlying67 Try.sizeOf32 rfl rfl (by omega) (by omega)) rfl rfl ?_
        refine WL.eff (eff_store (v := .int .u64 _) h Try.sizeOf32 rfl rfl rfl (cells_lt hi) (free0 _)) rfl rfl ?_
        rintro _ w h
        rw [cells_set hi] at h
        refine WL.nil ?_
        refine W.seq ?_
        refine W.region ?_
        refine WL.val run_move rfl rfl ?_
        refine WL.val (run_nilCheck rfl) rfl rfl ?_
        refine WL.val (run_fieldAddr 10 Try.underlying88 rfl Try.sizeOf59 rfl rfl) rfl rfl ?_
        refine WL.val (run_load1 Try.isAgg59 rfl (h.cellB rfl)) rfl rfl ?_
        refine WL.val (run_addW rfl rfl) rfl rfl ?_
        refine WL.val (run_nilCheck rfl) rfl rfl ?_
        refine WL.val (run_fieldAddr 10 Try.underlying88 rfl Try.sizeOf59 rfl rfl) rfl rfl ?_
        refine WL.eff (eff_store (v := .int .u32 _) h Try.sizeOf59 rfl rfl rfl rfl rfl) rfl rfl ?_
        rintro _ w h
        try simp only [Nat.zero_add, Nat.add_zero, List.set_cons_zero, List.set_cons_succ] at h
        refine WL.nil ?_
        refine W.seq ?_
        refine W.seq ?_
        refine W.region ?_
        refine WL.val run_move rfl rfl ?_
        refine WL.dec (run_eql rfl rfl) rfl rfl (fun c42 => ?_) (fun c42 => ?_)
        · skip
          refine WL.val run_move rfl rfl ?_
          refine WL.val run_move rfl rfl ?_
          refine WL.val (run_nilCheck rfl) rfl rfl ?_
          refine WL.val (run_fieldAddr 8 Try.underlying88 rfl Try.sizeOf3 rfl rfl) rfl rfl ?_
          refine WL.val (run_load1 Try.isAgg3 rfl (h.cellB rfl)) rfl rfl ?_
          refine WL.val run_move rfl rfl ?_
          refine WL.val (run_eqlF rfl rfl (by show ¬ ((-1 : Int) = (i : Int)); omega)) rfl rfl ?_
          refine WL.val (run_pickT rfl) rfl rfl ?_
          refine WL.nil ?_
          refine W.condF rfl ?_
          refine W.skip ?_
          refine W.seq ?_
          refine W.region ?_
          refine WL.eff (eff_call Try.call62 (rgood_ok h)) rfl rfl ?_
          rintro _ w ⟨rfl, h⟩
          refine WL.eff (eff_storeN (vs := [.int .i64 _, .int .i64 _, .int .i64 _, .slice _ _ _, .int .i64 _]) h Try.sizeOf28 rfl rfl rfl rfl rfl (fun k _ _ => free0 k)) rfl rfl ?_
          rintro _ w h
          try simp only [splice, List.take_zero, List.take_succ_cons, List.take_nil, List.drop_succ_cons, List.drop_zero, List.drop_nil, List.nil_append, List.cons_append, List.append_nil, List.length_cons, List.length_nil, Nat.zero_add, Nat.reduceAdd] at h
          refine WL.val run_assign rfl rfl ?_
          refine WL.nil ?_
          refine W.ret ?_
          refine bodyQ.rctB (vs := [.int .i64 _, .int .i64 _, .int .i64 _, .slice _ _ _, .int .i64 _]) (v2 := .slice _ _ _) h Try.results40 Try.isAgg28 Try.sizeOf28 rfl rfl rfl rfl ?_
          -- path FTFT
          exact ⟨0, 0, 0, rfl, h.to⟩
        · skip
          refine WL.val run_move rfl rfl ?_
          refine WL.skip rfl rfl ?_
          refine WL.skip rfl rfl ?_
          refine WL.skip rfl rfl ?_
          refine WL.skip rfl rfl ?_
          refine WL.skip rfl rfl ?_
          refine WL.skip rfl rfl ?_
          refine WL.val (run_pickF rfl) rfl rfl ?_
          refine WL.nil ?_
          refine W.condF rfl ?_
          refine W.skip ?_
          refine W.seq ?_
          refine W.region ?_
          refine WL.eff (eff_call Try.call62 (rgood_ok h)) rfl rfl ?_
          rintro _ w ⟨rfl, h⟩
          refine WL.eff (eff_storeN (vs := [.int .i64 _, .int .i64 _, .int .i64 _, .slice _ _ _, .int .i64 _]) h Try.sizeOf28 rfl rfl rfl rfl rfl (fun k _ _ => free0 k)) rfl rfl ?_
          rintro _ w h
          try simp only [splice, List.take_zero, List.take_succ_cons, List.take_nil, List.drop_succ_cons, List.drop_zero, List.drop_nil, List.nil_append, List.cons_append, List.append_nil, List.length_cons, List.length_nil, Nat.zero_add, Nat.reduceAdd] at h
          refine WL.val run_assign rfl rfl ?_
          refine WL.nil ?_
          refine W.ret ?_
          refine bodyQ.rctB (vs := [.int .i64 _, .int .i64 _, .int .i64 _, .slice _ _ _, .int .i64 _]) (v2 := .slice _ _ _) h Try.results40 Try.isAgg28 Try.sizeOf28 rfl rfl rfl rfl ?_
          -- path FTFF
          exact ⟨0, 0, 0, rfl, h.to⟩
    · skip
      refine WL.val run_move rfl rfl ?_
      refine WL.skip rfl rfl ?_
      refine WL.skip rfl rfl ?_
      refine WL.skip rfl rfl ?_
      refine WL.skip rfl rfl ?_
      refine WL.skip rfl rfl ?_
      refine WL.skip rfl rfl ?_
      refine WL.skip rfl rfl ?_
      refine WL.skip rfl rfl ?_
      refine WL.val (run_pickF rfl) rfl rfl ?_
      refine WL.nil ?_
      refine W.condF rfl ?_
      refine W.skip ?_
      refine W.seq ?_
      refine W.region ?_
      refine WL.val run_move rfl rfl ?_
      refine WL.val run_move rfl rfl ?_
      refine WL.val run_move rfl rfl ?_
      refine WL.val (run_nilCheck rfl) rfl rfl ?_
      refine WL.val (run_fieldAddr 0 Try.underlying88 rfl Try.sizeOf67 rfl rfl) rfl rfl ?_
      refine WL.val (run_indexAddrArr Try.underlying67 Try.sizeOf32 rfl rfl (by omega) (by omega)) rfl rfl ?_
      refine WL.eff (eff_store (v := .int .u64 _) h Try.sizeOf32 rfl rfl rfl (cells_lt hi) (free0 _)) rfl rfl ?_
      rintro _ w h
      rw [cells_set hi] at h
      refine WL.nil ?_
      refine W.seq ?_
      refine W.region ?_
      refine WL.val run_move rfl rfl ?_
      refine WL.val (run_nilCheck rfl) rfl rfl ?_
      refine WL.val (run_fieldAddr 10 Try.underlying88 rfl Try.sizeOf59 rfl rfl) rfl rfl ?_
      refine WL.val (run_load1 Try.isAgg59 rfl (h.cellB rfl)) rfl rfl ?_
      refine WL.val (run_addW rfl rfl) rfl rfl ?_
      refine WL.val (run_nilCheck rfl) rfl rfl ?_
      refine WL.val (run_fieldAddr 10 Try.underlying88 rfl Try.sizeOf59 rfl rfl) rfl rfl ?_
      refine WL.eff (eff_store (v := .int .u32 _) h Try.sizeOf59 rfl rfl rfl rfl rfl) rfl rfl ?_
      rintro _ w h
      try simp only [Nat.zero_add, Nat.add_zero, List.set_cons_zero, List.set_cons_succ] at h
      refine WL.nil ?_
      refine W.seq ?_
      refine W.seq ?_
      refine W.region ?_
      refine WL.val run_move rfl rfl ?_
      refine WL.dec (run_eql rfl rfl) rfl rfl (fun c42 => ?_) (fun c42 => ?_)
      · skip
        refine WL.val run_move rfl rfl ?_
        refine WL.val run_move rfl rfl ?_
        refine WL.val (run_nilCheck rfl) rfl rfl ?_
        refine WL.val (run_fieldAddr 8 Try.underlying88 rfl Try.sizeOf3 rfl rfl) rfl rfl ?_
        refine WL.val (run_load1 Try.isAgg3 rfl (h.cellB rfl)) rfl rfl ?_
        refine WL.val run_move rfl rfl ?_
        refine WL.val (run_eqlF rfl rfl (by show ¬ ((-1 : Int) = (i : Int)); omega)) rfl rfl ?_
        refine WL.val (run_pickT rfl) rfl rfl ?_
        refine WL.nil ?_
        refine W.condF rfl ?_
        refine W.skip ?_
        refine W.seq ?_
        refine W.region ?_
        refine WL.eff (eff_call Try.call62 (rgood_ok h)) rfl rfl ?_
        rintro _ w ⟨rfl, h⟩
        refine WL.eff (eff_storeN (vs := [.int .i64 _, .int .i64 _, .int .i64 _, .slice _ _ _, .int .i64 _]) h Try.sizeOf28 rfl rfl rfl rfl rfl (fun k _ _ => free0 k)) rfl rfl ?_
        rintro _ w h
        try simp only [splice, List.take_zero, List.take_succ_cons, List.take_nil, List.drop_succ_cons, List.drop_zero, List.drop_nil, List.nil_append, List.cons_append, List.append_nil, List.length_cons, List.length_nil, Nat.zero_add, Nat.reduceAdd] at h
        refine WL.val run_assign rfl rfl ?_
        refine WL.nil ?_
        refine W.ret ?_
        refine bodyQ.rctB (vs := [.int .i64 _, .int .i64 _, .int .i64 _, .slice _ _ _, .int .i64 _]) (v2 := .slice _ _ _) h Try.results40 Try.isAgg28 Try.sizeOf28 rfl rfl rfl rfl ?_
        -- path FFT
        exact ⟨0, 0, 0, rfl, h.to⟩
      · skip
        refine WL.val run_move rfl rfl ?_
        refine WL.skip rfl rfl ?_
        refine WL.skip rfl rfl ?_
        refine WL.skip rfl rfl ?_
        refine WL.skip rfl rfl ?_
        refine WL.skip rfl rfl ?_
        refine WL.skip rfl rfl ?_
        refine WL.val (run_pickF rfl) rfl rfl ?_
        refine WL.nil ?_
        refine W.condF rfl ?_
        refine W.skip ?_
        refine W.seq ?_
        refine W.region ?_
        refine WL.eff (eff_call Try.call62 (rgood_ok h)) rfl rfl ?_
        rintro _ w ⟨rfl, h⟩
        refine WL.eff (eff_storeN (vs := [.int .i64 _, .int .i64 _, .int .i64 _, .slice _ _ _, .int .i64 _]) h Try.sizeOf28 rfl rfl rfl rfl rfl (fun k _ _ => free0 k)) rfl rfl ?_
        rintro _ w h
        try simp only [splice, List.take_zero, List.take_succ_cons, List.take_nil, List.drop_succ_cons, List.drop_zero, List.drop_nil, List.nil_append, List.cons_append, List.append_nil, List.length_cons, List.length_nil, Nat.zero_add, Nat.reduceAdd] at h
        refine WL.val run_assign rfl rfl ?_
        refine WL.nil ?_
        refine W.ret ?_
        refine bodyQ.rctB (vs := [.int .i64 _, .int .i64 _, .int .i64 _, .slice _ _ _, .int .i64 _]) (v2 := .slice _ _ _) h Try.results40 Try.isAgg28 Try.sizeOf28 rfl rfl rfl rfl ?_
        -- path FFF
        exact ⟨0, 0, 0, rfl, h.to⟩

theorem rsame_ok {s k c s' k' c' : Int} (h : On W0 L w) : Calls Try.prog 45 #[rep s k c, rep s' k' c'] w (Ret fun v w' => (∃ r : Bool, v = .bool r) ∧ On W0 L w') := by
  refine enter Try.func45 rfl Try.ntmps45 rfl ?_
  refine W.seq ?_
  refine W.region ?_
  refine WL.eff (eff_box (v := .agg _) (l := [.int .i64 _, .int .i64 _, .int .i64 _, .slice _ _ _, .int .i64 _]) h rfl rfl) rfl rfl ?_
  rintro _ w ⟨b2, rfl, h⟩
  refine WL.eff (eff_box (v := .agg _) (l := [.int .i64 _, .int .i64 _, .int .i64 _, .slice _ _ _, .int .i64 _]) h rfl rfl) rfl rfl ?_
  rintro _ w ⟨b3, rfl, h⟩
  refine WL.val run_assign rfl rfl ?_
  refine WL.nil ?_
  refine W.seq ?_
  refine W.region ?_
  refine WL.val (run_fieldAddr 0 Try.underlying28 rfl Try.sizeOf3 rfl rfl) rfl rfl ?_
  refine WL.val (run_load1 Try.isAgg3 rfl (h.cellB rfl)) rfl rfl ?_
  refine WL.val (run_fieldAddr 0 Try.underlying28 rfl Try.sizeOf3 rfl rfl) rfl rfl ?_
  refine WL.val (run_load1 Try.isAgg3 rfl (h.cellB rfl)) rfl rfl ?_
  refine WL.dec (run_eql rfl rfl) rfl rfl (fun c9 => ?_) (fun c9 => ?_)
  · skip
    refine WL.val run_move rfl rfl ?_
    refine WL.val (run_fieldAddr 1 Try.underlying28 rfl Try.sizeOf3 rfl rfl) rfl rfl ?_
    refine WL.val (run_load1 Try.isAgg3 rfl (h.cellB rfl)) rfl rfl ?_
    refine WL.val (run_fieldAddr 1 Try.underlying28 rfl Try.sizeOf3 rfl rfl) rfl rfl ?_
    refine WL.val (run_load1 Try.isAgg3 rfl (h.cellB rfl)) rfl rfl ?_
    refine WL.dec (run_eql rfl rfl) rfl rfl (fun c15 => ?_) (fun c15 => ?_)
    · skip
      refine WL.val (run_pickT rfl) rfl rfl ?_
      refine WL.val run_move rfl rfl ?_
      refine WL.val (run_fieldAddr 2 Try.underlying28 rfl Try.sizeOf3 rfl rfl) rfl rfl ?_
      refine WL.val (run_load1 Try.isAgg3 rfl (h.cellB rfl)) rfl rfl ?_
      refine WL.val (run_fieldAddr 2 Try.underlying28 rfl Try.sizeOf3 rfl rfl) rfl rfl ?_
      refine WL.val (run_load1 Try.isAgg3 rfl (h.cellB rfl)) rfl rfl ?_
      refine WL.dec (run_eql rfl rfl) rfl rfl (fun c22 => ?_) (fun c22 => ?_)
      · skip
        refine WL.val (run_pickT rfl) rfl rfl ?_
        refine WL.val run_move rfl rfl ?_
        refine WL.val (run_fieldAddr 4 Try.underlying28 rfl Try.sizeOf3 rfl rfl) rfl rfl ?_
        refine WL.val (run_load1 Try.isAgg3 rfl (h.cellB rfl)) rfl rfl ?_
        refine WL.val (run_fieldAddr 4 Try.underlying28 rfl Try.sizeOf3 rfl rfl) rfl rfl ?_
        refine WL.val (run_load1 Try.isAgg3 rfl (h.cellB rfl)) rfl rfl ?_
        refine WL.dec (run_eql rfl rfl) rfl rfl (fun c29 => ?_) (fun c29 => ?_)
        · skip
          refine WL.val (run_pickT rfl) rfl rfl ?_
          refine WL.val run_move rfl rfl ?_
          refine WL.val (run_fieldAddr 3 Try.underlying28 rfl Try.sizeOf26 rfl rfl) rfl rfl ?_
          refine WL.val (run_load1 Try.isAgg26 rfl (h.cellB rfl)) rfl rfl ?_
          refine WL.val (run_bytesStr Try.underlying26 Try.underlying5 Try.underlying9 rfl (Bytes_nil _)) rfl rfl ?_
          refine WL.val (run_fieldAddr 3 Try.underlying28 rfl Try.sizeOf26 rfl rfl) rfl rfl ?_
          refine WL.val (run_load1 Try.isAgg26 rfl (h.cellB rfl)) rfl rfl ?_
          refine WL.val (run_bytesStr Try.underlying26 Try.underlying5 Try.underlying9 rfl (Bytes_nil _)) rfl rfl ?_
          refine WL.val (run_eqlStr rfl rfl) rfl rfl ?_
          refine WL.val (run_pickT rfl) rfl rfl ?_
          refine WL.val run_assign rfl rfl ?_
          refine WL.nil ?_
          refine W.ret ?_
          refine bodyQ.r1 (v := .bool _) Try.results45 rfl ?_
          -- path TTTT
          exact ⟨⟨_, rfl⟩, h.to⟩
        · skip
          refine WL.val (run_pickT rfl) rfl rfl ?_
          refine WL.val run_move rfl rfl ?_
          refine WL.skip rfl rfl ?_
          refine WL.skip rfl rfl ?_
          refine WL.skip rfl rfl ?_
          refine WL.skip rfl rfl ?_
          refine WL.skip rfl rfl ?_
          refine WL.skip rfl rfl ?_
          refine WL.skip rfl rfl ?_
          refine WL.val (run_pickF rfl) rfl rfl ?_
          refine WL.val run_assign rfl rfl ?_
          refine WL.nil ?_
          refine W.ret ?_
          refine bodyQ.r1 (v := .bool _) Try.results45 rfl ?_
          -- path TTTF
          exact ⟨⟨_, rfl⟩, h.to⟩
      · skip
        refine WL.val (run_pickT rfl) rfl rfl ?_
        refine WL.val run_move rfl rfl ?_
        refine WL.skip rfl rfl ?_
        refine WL.skip rfl rfl ?_
        refine WL.skip rfl rfl ?_
        refine WL.skip rfl rfl ?_
        refine WL.skip rfl rfl ?_
        refine WL.val (run_pickF rfl) rfl rfl ?_
        refine WL.val run_move rfl rfl ?_
        refine WL.skip rfl rfl ?_
        refine WL.skip rfl rfl ?_
        refine WL.skip rfl rfl ?_
        refine WL.skip rfl rfl ?_
        refine WL.skip rfl rfl ?_
        refine WL.skip rfl rfl ?_
        refine WL.skip rfl rfl ?_
        refine WL.val (run_pickF rfl) rfl rfl ?_
        refine WL.val run_assign rfl rfl ?_
        refine WL.nil ?_
        refine W.ret ?_
        refine bodyQ.r1 (v := .bool _) Try.results45 rfl ?_
        -- path TTF
        exact ⟨⟨_, rfl⟩, h.to⟩
    · skip
      refine WL.val (run_pickT rfl) rfl rfl ?_
      refine WL.val run_move rfl rfl ?_
      refine WL.skip rfl rfl ?_
      refine WL.skip rfl rfl ?_
      refine WL.skip rfl rfl ?_
      refine WL.skip rfl rfl ?_
      refine WL.skip rfl rfl ?_
      refine WL.val (run_pickF rfl) rfl rfl ?_
      refine WL.val run_move rfl rfl ?_
      refine WL.skip rfl rfl ?_
      refine WL.skip rfl rfl ?_
      refine WL.skip rfl rfl ?_
      refine WL.skip rfl rfl ?_
      refine WL.skip rfl rfl ?_
      refine WL.val (run_pickF rfl) rfl rfl ?_
      refine WL.val run_move rfl rfl ?_
      refine WL.skip rfl rfl ?_
      refine WL.skip rfl rfl ?_
      refine WL.skip rfl rfl ?_
      refine WL.skip rfl rfl ?_
      refine WL.skip rfl rfl ?_
      refine WL.skip rfl rfl ?_
      refine WL.skip rfl rfl ?_
      refine WL.val (run_pickF rfl) rfl rfl ?_
      refine WL.val run_assign rfl rfl ?_
      refine WL.nil ?_
      refine W.ret ?_
      refine bodyQ.r1 (v := .bool _) Try.results45 rfl ?_
      -- path TF
      exact ⟨⟨_, rfl⟩, h.to⟩
  · skip
    refine WL.val run_move rfl rfl ?_
    refine WL.skip rfl rfl ?_
    refine WL.skip rfl rfl ?_
    refine WL.skip rfl rfl ?_
    refine WL.skip rfl rfl ?_
    refine WL.skip rfl rfl ?_
    refine WL.val (run_pickF rfl) rfl rfl ?_
    refine WL.val run_move rfl rfl ?_
    refine WL.skip rfl rfl ?_
    refine WL.skip rfl rfl ?_
    refine WL.skip rfl rfl ?_
    refine WL.skip rfl rfl ?_
    refine WL.skip rfl rfl ?_
    refine WL.val (run_pickF rfl) rfl rfl ?_
    refine WL.val run_move rfl rfl ?_
    refine WL.skip rfl rfl ?_
    refine WL.skip rfl rfl ?_
    refine WL.skip rfl rfl ?_
    refine WL.skip rfl rfl ?_
    refine WL.skip rfl rfl ?_
    refine WL.val (run_pickF rfl) rfl rfl ?_
    refine WL.val run_move rfl rfl ?_
    refine WL.skip rfl rfl ?_
    refine WL.skip rfl rfl ?_
    refine WL.skip rfl rfl ?_
    refine WL.skip rfl rfl ?_
    refine WL.skip rfl rfl ?_
    refine WL.skip rfl rfl ?_
    refine WL.skip rfl rfl ?_
    refine WL.val (run_pickF rfl) rfl rfl ?_
    refine WL.val run_assign rfl rfl ?_
    refine WL.nil ?_
    refine W.ret ?_
    refine bodyQ.r1 (v := .bool _) Try.results45 rfl ?_
    -- path F
    exact ⟨⟨_, rfl⟩, h.to⟩

theorem rnotes_ok {a : Option Addr} {n c : Nat} (hn : n ≤ 8) (h : On W0 L w) : Calls Try.prog 46 #[.slice a n c, .slice none 0 0] w (Ret fun v w' => (∃ r : Bool, v = .bool r) ∧ On W0 L w') := by
  refine enter Try.func46 rfl Try.ntmps46 rfl ?_
  refine W.seq ?_
  refine W.region ?_
  refine WL.val run_assign rfl rfl ?_
  refine WL.nil ?_
  refine W.seq ?_
  refine W.seq ?_
  refine W.region ?_
  refine WL.val run_move rfl rfl ?_
  refine WL.val (run_lenSlice Try.underlying29 rfl) rfl rfl ?_
  refine WL.val run_move rfl rfl ?_
  refine WL.val (run_lenSlice Try.underlying79 rfl) rfl rfl ?_
  refine WL.val (run_neq rfl rfl) rfl rfl ?_
  refine WL.nil ?_
  refine W.condIf rfl (fun c2 => ?_) (fun c2 => ?_)
  · skip
    refine W.seq ?_
    refine W.region ?_
    refine WL.val run_assign rfl rfl ?_
    refine WL.nil ?_
    refine W.ret ?_
    refine bodyQ.r1 (v := .bool _) Try.results46 rfl ?_
    -- path T
    exact ⟨⟨_, rfl⟩, h⟩
  · skip
    refine W.skip ?_
    refine W.seq ?_
    refine W.seq ?_
    refine W.region ?_
    refine WL.val run_assign rfl rfl ?_
    refine WL.nil ?_
    refine W.block ?_
    refine W.loop (fun (_ : Unit) env w => ∃ j, env = mkE j [(0, .slice a n c), (5, .int .i64 0)] ∧ On W0 L w) (fun _ => 0) (()) ?_ ?_
    · exact ⟨_, mkE_of ⟨rfl, rfl, trivial⟩, h⟩
    · rintro _ env w ⟨j, rfl, h⟩
      refine W.seq ?_
      refine W.seq ?_
      refine W.region ?_
      refine WL.val run_move rfl rfl ?_
      refine WL.val run_move rfl rfl ?_
      refine WL.val (run_lenSlice Try.underlying29 rfl) rfl rfl ?_
      refine WL.val (run_lss rfl rfl) rfl rfl ?_
      refine WL.nil ?_
      refine W.condIf rfl (fun c10 => ?_) (fun c10 => ?_)
      · skip
        exfalso; omega
      · skip
        refine W.exit ?_
        refine W.seq ?_
        refine W.region ?_
        refine WL.val run_assign rfl rfl ?_
        refine WL.nil ?_
        refine W.ret ?_
        refine bodyQ.r1 (v := .bool _) Try.results46 rfl ?_
        -- path FLF
        exact ⟨⟨_, rfl⟩, h⟩

theorem rdo_ok {b b' : Nat} {t : Tb} {a : RsM.Act} (hinv : inv t) (h : On W0 (blk b' newT.cells 88 :: blk b t.cells 69 :: L) w) : Calls Try.prog 16 #[.pointer (some ⟨b, 0, none⟩), .pointer (some ⟨b', 0, none⟩), .agg a.cells.toArray] w (Ret fun v w' => (∃ r : Bool, v = .bool r) ∧ ∃ t', inv t' ∧ On W0 (blk b t'.cells 69 :: L) w') := by
  refine enter Try.func16 rfl Try.ntmps16 rfl ?_
  obtain ⟨aop, ahost, akey, aother, atyp⟩ := a
  refine W.seq ?_
  refine W.region ?_
  refine WL.eff (eff_box (v := .agg _) (l := [.int .i64 _, .int .i64 _, .int .u64 _, .int .u64 _, .int .i64 _]) h rfl rfl) rfl rfl ?_
  rintro _ w ⟨b5, rfl, h⟩
  refine WL.val run_assign rfl rfl ?_
  refine WL.nil ?_
  refine W.seq ?_
  refine W.region ?_
  refine WL.eff (eff_alloc h Try.zeroValue28 rfl) rfl rfl ?_
  rintro _ w ⟨b7, rfl, h⟩
  refine WL.eff (eff_alloc h Try.zeroValue28 rfl) rfl rfl ?_
  rintro _ w ⟨b8, rfl, h⟩
  refine WL.nil ?_
  refine W.seq ?_
  refine W.region ?_
  refine WL.val run_assign rfl rfl ?_
  refine WL.nil ?_
  refine W.seq ?_
  refine W.region ?_
  refine WL.val run_assign rfl rfl ?_
  refine WL.nil ?_
  refine W.cut (fun env w => ∃ j s k c s' k' c' a n cc t', env = mkE j [(7, .pointer (some ⟨b7, 0, none⟩)), (8, .pointer (some ⟨b8, 0, none⟩)), (9, .slice a n cc), (10, .slice none 0 0)] ∧ inv t' ∧ n ≤ 8 ∧ On W0 (blk b7 [.int .i64 s, .int .i64 k, .int .i64 c, .slice none 0 0, .int .i64 0] 28 :: blk b8 [.int .i64 s', .int .i64 k', .int .i64 c', .slice none 0 0, .int .i64 0] 28 :: blk b t'.cells 69 :: L) w) ?_ ?_
  · skip
    refine W.seq ?_
    refine W.region ?_
    refine WL.val (run_fieldAddr 0 Try.underlying51 rfl Try.sizeOf3 rfl rfl) rfl rfl ?_
    refine WL.val (run_load1 Try.isAgg3 rfl (h.cellB rfl)) rfl rfl ?_
    refine WL.nil ?_
    refine W.block ?_
    refine W.seq ?_
    refine W.seq ?_
    refine W.region ?_
    refine WL.val (run_eql rfl rfl) rfl rfl ?_
    refine WL.val run_assign rfl rfl ?_
    refine WL.nil ?_
    refine W.condIf rfl (fun c7 => ?_) (fun c7 => ?_)
    · skip
      refine W.skip ?_
      refine W.condIf rfl (fun c10 => ?_) (fun c10 => ?_)
      · skip
        refine W.seq ?_
        refine W.region ?_
        refine WL.val run_move rfl rfl ?_
        refine WL.val (run_fieldAddr 1 Try.underlying51 rfl Try.sizeOf3 rfl rfl) rfl rfl ?_
        refine WL.val (run_load1 Try.isAgg3 rfl (h.cellB rfl)) rfl rfl ?_
        refine WL.val (run_fieldAddr 2 Try.underlying51 rfl Try.sizeOf32 rfl rfl) rfl rfl ?_
        refine WL.val (run_load1 Try.isAgg32 rfl (h.cellB rfl)) rfl rfl ?_
        refine WL.val (run_fieldAddr 3 Try.underlying51 rfl Try.sizeOf32 rfl rfl) rfl rfl ?_
        refine WL.val (run_load1 Try.isAgg32 rfl (h.cellB rfl)) rfl rfl ?_
        refine WL.val (run_fieldAddr 0 Try.underlying51 rfl Try.sizeOf3 rfl rfl) rfl rfl ?_
        refine WL.val (run_load1 Try.isAgg3 rfl (h.cellB rfl)) rfl rfl ?_
        refine WL.val (run_eql rfl rfl) rfl rfl ?_
        refine WL.eff (eff_call Try.call9 (register_ok (t := t) (h.fetch (blk b t.cells 69)))) rfl rfl ?_
        rintro v w hv
        have hX : ∃ s k c a n cc t', v = .tuple #[rep s k c, .slice a n cc] ∧ inv t' ∧ n ≤ 8 ∧ On W0 (blk b t'.cells 69 :: blk b8 [.int .i64 0, .int .i64 0, .int .i64 0, .slice none 0 0, .int .i64 0] 28 :: blk b7 [.int .i64 0, .int .i64 0, .int .i64 0, .slice none 0 0, .int .i64 0] 28 :: blk b5 [.int .i64 aop, .int .i64 ahost, .int .u64 akey, .int .u64 aother, .int .i64 atyp] 51 :: blk b' newT.cells 88 :: L) w := by
          rcases hv with ⟨i, rfl, hi, _, a, c, rfl, h⟩ | ⟨_, s, k, c, rfl, h⟩
          · refine ⟨0, 0, 0, a, _, c, (regO t i aother).2, rfl, inv_reg hinv hi, ?_, h.to⟩
            unfold regO Tb.told
            split
            · dsimp only; split
              · exact hostsN_len ..
              · exact Nat.zero_le _
            · exact Nat.zero_le _
          · exact ⟨s, k, c, none, 0, 0, t, rfl, hinv, Nat.zero_le _, h.to⟩
        obtain ⟨s, k, c, a, n, cc, t', rfl, hinv2, hn, h⟩ := hX
        refine WL.val run_move rfl rfl ?_
        refine WL.val (run_extract rfl rfl) rfl rfl ?_
        refine WL.val (run_extract rfl rfl) rfl rfl ?_
        refine WL.eff (eff_storeN (vs := [.int .i64 _, .int .i64 _, .int .i64 _, .slice _ _ _, .int .i64 _]) h Try.sizeOf28 rfl rfl rfl rfl rfl (fun k _ _ => free0 k)) rfl rfl ?_
        rintro _ w h
        try simp only [splice, List.take_zero, List.take_succ_cons, List.take_nil, List.drop_succ_cons, List.drop_zero, List.drop_nil, List.nil_append, List.cons_append, List.append_nil, List.length_cons, List.length_nil, Nat.zero_add, Nat.reduceAdd] at h
        refine WL.val run_assign rfl rfl ?_
        refine WL.nil ?_
        refine W.region ?_
        refine WL.val run_move rfl rfl ?_
        refine WL.val (run_fieldAddr 1 Try.underlying51 rfl Try.sizeOf3 rfl rfl) rfl rfl ?_
        refine WL.val (run_load1 Try.isAgg3 rfl (h.cellB rfl)) rfl rfl ?_
        refine WL.val (run_fieldAddr 2 Try.underlying51 rfl Try.sizeOf32 rfl rfl) rfl rfl ?_
        refine WL.val (run_load1 Try.isAgg32 rfl (h.cellB rfl)) rfl rfl ?_
        refine WL.val (run_fieldAddr 3 Try.underlying51 rfl Try.sizeOf32 rfl rfl) rfl rfl ?_
        refine WL.val (run_load1 Try.isAgg32 rfl (h.cellB rfl)) rfl rfl ?_
        refine WL.val (run_fieldAddr 0 Try.underlying51 rfl Try.sizeOf3 rfl rfl) rfl rfl ?_
        refine WL.val (run_load1 Try.isAgg3 rfl (h.cellB rfl)) rfl rfl ?_
        refine WL.val (run_eql rfl rfl) rfl rfl ?_
        refine WL.eff (eff_call Try.call40 (rregister_ok (h.fetch (blk b' newT.cells 88)))) rfl rfl ?_
        rintro _ w ⟨s', k', c', rfl, h⟩
        refine WL.val run_move rfl rfl ?_
        refine WL.val (run_extract rfl rfl) rfl rfl ?_
        refine WL.val (run_extract rfl rfl) rfl rfl ?_
        refine WL.eff (eff_storeN (vs := [.int .i64 _, .int .i64 _, .int .i64 _, .slice _ _ _, .int .i64 _]) h Try.sizeOf28 rfl rfl rfl rfl rfl (fun k _ _ => free0 k)) rfl rfl ?_
        rintro _ w h
        try simp only [splice, List.take_zero, List.take_succ_cons, List.take_nil, List.drop_succ_cons, List.drop_zero, List.drop_nil, List.nil_append, List.cons_append, List.append_nil, List.length_cons, List.length_nil, Nat.zero_add, Nat.reduceAdd] at h
        refine WL.val run_assign rfl rfl ?_
        refine WL.nil ?_
        -- to the cut, path TT
        exact ⟨_, s, k, c, s', k', c', a, n, cc, t', mkE_of ⟨rfl, rfl, rfl, rfl, trivial⟩, hinv2, hn, h.to⟩
      · skip
        refine W.seq ?_
        refine W.region ?_
        refine WL.val (run_eql rfl rfl) rfl rfl ?_
        refine WL.val run_assign rfl rfl ?_
        refine WL.nil ?_
        refine W.condIf rfl (fun c14 => ?_) (fun c14 => ?_)
        · skip
          refine W.seq ?_
          refine W.region ?_
          refine WL.val run_move rfl rfl ?_
          refine WL.val (run_fieldAddr 1 Try.underlying51 rfl Try.sizeOf3 rfl rfl) rfl rfl ?_
          refine WL.val (run_load1 Try.isAgg3 rfl (h.cellB rfl)) rfl rfl ?_
          refine WL.val (run_fieldAddr 2 Try.underlying51 rfl Try.sizeOf32 rfl rfl) rfl rfl ?_
          refine WL.val (run_load1 Try.isAgg32 rfl (h.cellB rfl)) rfl rfl ?_
          refine WL.val (run_fieldAddr 4 Try.underlying51 rfl Try.sizeOf3 rfl rfl) rfl rfl ?_
          refine WL.val (run_load1 Try.isAgg3 rfl (h.cellB rfl)) rfl rfl ?_
          refine WL.eff (eff_call Try.call10 (reserve_ok (t := t) (h.fetch (blk b t.cells 69)))) rfl rfl ?_
          rintro v w hv
          have hX : ∃ s k c t', v = rep s k c ∧ inv t' ∧ On W0 (blk b t'.cells 69 :: blk b8 [.int .i64 0, .int .i64 0, .int .i64 0, .slice none 0 0, .int .i64 0] 28 :: blk b7 [.int .i64 0, .int .i64 0, .int .i64 0, .slice none 0 0, .int .i64 0] 28 :: blk b5 [.int .i64 aop, .int .i64 ahost, .int .u64 akey, .int .u64 aother, .int .i64 atyp] 51 :: blk b' newT.cells 88 :: L) w := by
            rcases hv with ⟨h1, h2, _, rfl, h⟩ | ⟨_, s, k, c, rfl, _, h⟩
            · exact ⟨0, 0, 0, t.take ahost atyp, rfl, inv_take h1 h2, h.to⟩
            · exact ⟨s, k, c, t, rfl, hinv, h.to⟩
          obtain ⟨s, k, c, t', rfl, hinv2, h⟩ := hX
          refine WL.eff (eff_storeN (vs := [.int .i64 _, .int .i64 _, .int .i64 _, .slice _ _ _, .int .i64 _]) h Try.sizeOf28 rfl rfl rfl rfl rfl (fun k _ _ => free0 k)) rfl rfl ?_
          rintro _ w h
          try simp only [splice, List.take_zero, List.take_succ_cons, List.take_nil, List.drop_succ_cons, List.drop_zero, List.drop_nil, List.nil_append, List.cons_append, List.append_nil, List.length_cons, List.length_nil, Nat.zero_add, Nat.reduceAdd] at h
          refine WL.nil ?_
          refine W.region ?_
          refine WL.val run_move rfl rfl ?_
          refine WL.val (run_fieldAddr 1 Try.underlying51 rfl Try.sizeOf3 rfl rfl) rfl rfl ?_
          refine WL.val (run_load1 Try.isAgg3 rfl (h.cellB rfl)) rfl rfl ?_
          refine WL.val (run_fieldAddr 2 Try.underlying51 rfl Try.sizeOf32 rfl rfl) rfl rfl ?_
          refine WL.val (run_load1 Try.isAgg32 rfl (h.cellB rfl)) rfl rfl ?_
          refine WL.val (run_fieldAddr 4 Try.underlying51 rfl Try.sizeOf3 rfl rfl) rfl rfl ?_
          refine WL.val (run_load1 Try.isAgg3 rfl (h.cellB rfl)) rfl rfl ?_
          refine WL.eff (eff_call Try.call41 (rreserve_ok (h.fetch (blk b' newT.cells 88)))) rfl rfl ?_
          rintro _ w ⟨s', k', c', rfl, h⟩
          refine WL.eff (eff_storeN (vs := [.int .i64 _, .int .i64 _, .int .i64 _, .slice _ _ _, .int .i64 _]) h Try.sizeOf28 rfl rfl rfl rfl rfl (fun k _ _ => free0 k)) rfl rfl ?_
          rintro _ w h
          try simp only [splice, List.take_zero, List.take_succ_cons, List.take_nil, List.drop_succ_cons, List.drop_zero, List.drop_nil, List.nil_append, List.cons_append, List.append_nil, List.length_cons, List.length_nil, Nat.zero_add, Nat.reduceAdd] at h
          refine WL.nil ?_
          -- to the cut, path TFT
          exact ⟨_, s, k, c, s', k', c', none, 0, 0, t', mkE_of ⟨rfl, rfl, rfl, rfl, trivial⟩, hinv2, Nat.zero_le _, h.to⟩
        · skip
          refine W.seq ?_
          refine W.region ?_
          refine WL.val (run_eql rfl rfl) rfl rfl ?_
          refine WL.val run_assign rfl rfl ?_
          refine WL.nil ?_
          refine W.condIf rfl (fun c18 => ?_) (fun c18 => ?_)
          · skip
            refine W.seq ?_
            refine W.region ?_
            refine WL.val run_move rfl rfl ?_
            refine WL.val (run_fieldAddr 1 Try.underlying51 rfl Try.sizeOf3 rfl rfl) rfl rfl ?_
            refine WL.val (run_load1 Try.isAgg3 rfl (h.cellB rfl)) rfl rfl ?_
            refine WL.val (run_fieldAddr 2 Try.underlying51 rfl Try.sizeOf32 rfl rfl) rfl rfl ?_
            refine WL.val (run_load1 Try.isAgg32 rfl (h.cellB rfl)) rfl rfl ?_
            refine WL.val (run_fieldAddr 4 Try.underlying51 rfl Try.sizeOf3 rfl rfl) rfl rfl ?_
            refine WL.val (run_load1 Try.isAgg3 rfl (h.cellB rfl)) rfl rfl ?_
            refine WL.eff (eff_call Try.call11 (release_ok (t := t) (h.fetch (blk b t.cells 69)))) rfl rfl ?_
            rintro v w hv
            have hX : ∃ s k c a n cc t', v = .tuple #[rep s k c, .slice a n cc] ∧ inv t' ∧ n ≤ 8 ∧ On W0 (blk b t'.cells 69 :: blk b8 [.int .i64 0, .int .i64 0, .int .i64 0, .slice none 0 0, .int .i64 0] 28 :: blk b7 [.int .i64 0, .int .i64 0, .int .i64 0, .slice none 0 0, .int .i64 0] 28 :: blk b5 [.int .i64 aop, .int .i64 ahost, .int .u64 akey, .int .u64 aother, .int .i64 atyp] 51 :: blk b' newT.cells 88 :: L) w := by
              rcases hv with ⟨_, _, _, _, a, rfl, h⟩ | ⟨_, s, k, c, rfl, h⟩
              · refine ⟨0, 0, 0, a, _, _, t.freed, rfl, inv_freed (t := t), ?_, h.to⟩
                unfold Tb.told
                split
                · exact hostsN_len ..
                · exact Nat.zero_le _
              · exact ⟨s, k, c, none, 0, 0, t, rfl, hinv, Nat.zero_le _, h.to⟩
            obtain ⟨s, k, c, a, n, cc, t', rfl, hinv2, hn, h⟩ := hX
            refine WL.val run_move rfl rfl ?_
            refine WL.val (run_extract rfl rfl) rfl rfl ?_
            refine WL.val (run_extract rfl rfl) rfl rfl ?_
            refine WL.eff (eff_storeN (vs := [.int .i64 _, .int .i64 _, .int .i64 _, .slice _ _ _, .int .i64 _]) h Try.sizeOf28 rfl rfl rfl rfl rfl (fun k _ _ => free0 k)) rfl rfl ?_
            rintro _ w h
            try simp only [splice, List.take_zero, List.take_succ_cons, List.take_nil, List.drop_succ_cons, List.drop_zero, List.drop_nil, List.nil_append, List.cons_append, List.append_nil, List.length_cons, List.length_nil, Nat.zero_add, Nat.reduceAdd] at h
            refine WL.val run_assign rfl rfl ?_
            refine WL.nil ?_
            refine W.region ?_
            refine WL.val run_move rfl rfl ?_
            refine WL.val (run_fieldAddr 1 Try.underlying51 rfl Try.sizeOf3 rfl rfl) rfl rfl ?_
            refine WL.val (run_load1 Try.isAgg3 rfl (h.cellB rfl)) rfl rfl ?_
            refine WL.val (run_fieldAddr 2 Try.underlying51 rfl Try.sizeOf32 rfl rfl) rfl rfl ?_
            refine WL.val (run_load1 Try.isAgg32 rfl (h.cellB rfl)) rfl rfl ?_
            refine WL.val (run_fieldAddr 4 Try.underlying51 rfl Try.sizeOf3 rfl rfl) rfl rfl ?_
            refine WL.val (run_load1 Try.isAgg3 rfl (h.cellB rfl)) rfl rfl ?_
            refine WL.eff (eff_call Try.call42 (rrelease_ok (h.fetch (blk b' newT.cells 88)))) rfl rfl ?_
            rintro _ w ⟨s', k', c', rfl, h⟩
            refine WL.val run_move rfl rfl ?_
            refine WL.val (run_extract rfl rfl) rfl rfl ?_
            refine WL.val (run_extract rfl rfl) rfl rfl ?_
            refine WL.eff (eff_storeN (vs := [.int .i64 _, .int .i64 _, .int .i64 _, .slice _ _ _, .int .i64 _]) h Try.sizeOf28 rfl rfl rfl rfl rfl (fun k _ _ => free0 k)) rfl rfl ?_
            rintro _ w h
            try simp only [splice, List.take_zero, List.take_succ_cons, List.take_nil, List.drop_succ_cons, List.drop_zero, List.drop_nil, List.nil_append, List.cons_append, List.append_nil, List.length_cons, List.length_nil, Nat.zero_add, Nat.reduceAdd] at h
            refine WL.val run_assign rfl rfl ?_
            refine WL.nil ?_
            -- to the cut, path TFFT
            exact ⟨_, s, k, c, s', k', c', a, n, cc, t', mkE_of ⟨rfl, rfl, rfl, rfl, trivial⟩, hinv2, hn, h.to⟩
          · skip
            refine W.seq ?_
            refine W.region ?_
            refine WL.val (run_eql rfl rfl) rfl rfl ?_
            refine WL.val run_assign rfl rfl ?_
            refine WL.nil ?_
            refine W.condIf rfl (fun c22 => ?_) (fun c22 => ?_)
            · skip
              refine W.seq ?_
              refine W.region ?_
              refine WL.val run_move rfl rfl ?_
              refine WL.val (run_fieldAddr 1 Try.underlying51 rfl Try.sizeOf3 rfl rfl) rfl rfl ?_
              refine WL.val (run_load1 Try.isAgg3 rfl (h.cellB rfl)) rfl rfl ?_
              refine WL.val (run_fieldAddr 2 Try.underlying51 rfl Try.sizeOf32 rfl rfl) rfl rfl ?_
              refine WL.val (run_load1 Try.isAgg32 rfl (h.cellB rfl)) rfl rfl ?_
              refine WL.eff (eff_call Try.call14 (clear_ok (t := t) (h.fetch (blk b t.cells 69)))) rfl rfl ?_
              rintro v w hv
              have hX : ∃ s k c a n cc t', v = .tuple #[rep s k c, .slice a n cc] ∧ inv t' ∧ n ≤ 8 ∧ On W0 (blk b t'.cells 69 :: blk b8 [.int .i64 0, .int .i64 0, .int .i64 0, .slice none 0 0, .int .i64 0] 28 :: blk b7 [.int .i64 0, .int .i64 0, .int .i64 0, .slice none 0 0, .int .i64 0] 28 :: blk b5 [.int .i64 aop, .int .i64 ahost, .int .u64 akey, .int .u64 aother, .int .i64 atyp] 51 :: blk b' newT.cells 88 :: L) w := by
                rcases hv with ⟨_, a, rfl, h⟩ | ⟨_, s, k, c, rfl, _, h⟩
                · exact ⟨0, 0, 0, a, _, _, t.cleared, rfl, inv_cleared (t := t), hostsN_len .., h.to⟩
                · exact ⟨s, k, c, none, 0, 0, t, rfl, hinv, Nat.zero_le _, h.to⟩
              obtain ⟨s, k, c, a, n, cc, t', rfl, hinv2, hn, h⟩ := hX
              refine WL.val run_move rfl rfl ?_
              refine WL.val (run_extract rfl rfl) rfl rfl ?_
              refine WL.val (run_extract rfl rfl) rfl rfl ?_
              refine WL.eff (eff_storeN (vs := [.int .i64 _, .int .i64 _, .int .i64 _, .slice _ _ _, .int .i64 _]) h Try.sizeOf28 rfl rfl rfl rfl rfl (fun k _ _ => free0 k)) rfl rfl ?_
              rintro _ w h
              try simp only [splice, List.take_zero, List.take_succ_cons, List.take_nil, List.drop_succ_cons, List.drop_zero, List.drop_nil, List.nil_append, List.cons_append, List.append_nil, List.length_cons, List.length_nil, Nat.zero_add, Nat.reduceAdd] at h
              refine WL.val run_assign rfl rfl ?_
              refine WL.nil ?_
              refine W.region ?_
              refine WL.val run_move rfl rfl ?_
              refine WL.val (run_fieldAddr 1 Try.underlying51 rfl Try.sizeOf3 rfl rfl) rfl rfl ?_
              refine WL.val (run_load1 Try.isAgg3 rfl (h.cellB rfl)) rfl rfl ?_
              refine WL.val (run_fieldAddr 2 Try.underlying51 rfl Try.sizeOf32 rfl rfl) rfl rfl ?_
              refine WL.val (run_load1 Try.isAgg32 rfl (h.cellB rfl)) rfl rfl ?_
              refine WL.eff (eff_call Try.call43 (rclear_ok (h.fetch (blk b' newT.cells 88)))) rfl rfl ?_
              rintro _ w ⟨s', k', c', rfl, h⟩
              refine WL.val run_move rfl rfl ?_
              refine WL.val (run_extract rfl rfl) rfl rfl ?_
              refine WL.val (run_extract rfl rfl) rfl rfl ?_
              refine WL.eff (eff_storeN (vs := [.int .i64 _, .int .i64 _, .int .i64 _, .slice _ _ _, .int .i64 _]) h Try.sizeOf28 rfl rfl rfl rfl rfl (fun k _ _ => free0 k)) rfl rfl ?_
              rintro _ w h
              try simp only [splice, List.take_zero, List.take_succ_cons, List.take_nil, List.drop_succ_cons, List.drop_zero, List.drop_nil, List.nil_append, List.cons_append, List.append_nil, List.length_cons, List.length_nil, Nat.zero_add, Nat.reduceAdd] at h
              refine WL.val run_assign rfl rfl ?_
              refine WL.nil ?_
              -- to the cut, path TFFFT
              exact ⟨_, s, k, c, s', k', c', a, n, cc, t', mkE_of ⟨rfl, rfl, rfl, rfl, trivial⟩, hinv2, hn, h.to⟩
            · skip
              refine W.seq ?_
              refine W.region ?_
              refine WL.val (run_eql rfl rfl) rfl rfl ?_
              refine WL.val run_assign rfl rfl ?_
              refine WL.nil ?_
              refine W.condIf rfl (fun c26 => ?_) (fun c26 => ?_)
              · skip
                refine W.seq ?_
                refine W.region ?_
                refine WL.val run_move rfl rfl ?_
                refine WL.val (run_fieldAddr 1 Try.underlying51 rfl Try.sizeOf3 rfl rfl) rfl rfl ?_
                refine WL.val (run_load1 Try.isAgg3 rfl (h.cellB rfl)) rfl rfl ?_
                refine WL.val (run_fieldAddr 2 Try.underlying51 rfl Try.sizeOf32 rfl rfl) rfl rfl ?_
                refine WL.val (run_load1 Try.isAgg32 rfl (h.cellB rfl)) rfl rfl ?_
                refine WL.val (run_fieldAddr 3 Try.underlying51 rfl Try.sizeOf32 rfl rfl) rfl rfl ?_
                refine WL.val (run_load1 Try.isAgg32 rfl (h.cellB rfl)) rfl rfl ?_
                refine WL.val (run_fieldAddr 4 Try.underlying51 rfl Try.sizeOf3 rfl rfl) rfl rfl ?_
                refine WL.val (run_load1 Try.isAgg3 rfl (h.cellB rfl)) rfl rfl ?_
                refine WL.eff (eff_call Try.call27 (preempt_ok (t := t) (inv_hold hinv) (h.fetch (blk b t.cells 69)))) rfl rfl ?_
                rintro v w hv
                have hX : ∃ s k c a n cc t', v = .tuple #[rep s k c, .slice a n cc] ∧ inv t' ∧ n ≤ 8 ∧ On W0 (blk b t'.cells 69 :: blk b8 [.int .i64 0, .int .i64 0, .int .i64 0, .slice none 0 0, .int .i64 0] 28 :: blk b7 [.int .i64 0, .int .i64 0, .int .i64 0, .slice none 0 0, .int .i64 0] 28 :: blk b5 [.int .i64 aop, .int .i64 ahost, .int .u64 akey, .int .u64 aother, .int .i64 atyp] 51 :: blk b' newT.cells 88 :: L) w := by
                  rcases hv with ⟨h1, a, rfl, h⟩ | ⟨_, s, k, c, rfl, h⟩
                  · exact ⟨0, 0, 0, a, _, _, preT t ahost aother atyp, rfl, inv_pre hinv h1, hostsN_len .., h.to⟩
                  · exact ⟨s, k, c, none, 0, 0, t, rfl, hinv, Nat.zero_le _, h.to⟩
                obtain ⟨s, k, c, a, n, cc, t', rfl, hinv2, hn, h⟩ := hX
                refine WL.val run_move rfl rfl ?_
                refine WL.val (run_extract rfl rfl) rfl rfl ?_
                refine WL.val (run_extract rfl rfl) rfl rfl ?_
                refine WL.eff (eff_storeN (vs := [.int .i64 _, .int .i64 _, .int .i64 _, .slice _ _ _, .int .i64 _]) h Try.sizeOf28 rfl rfl rfl rfl rfl (fun k _ _ => free0 k)) rfl rfl ?_
                rintro _ w h
                try simp only [splice, List.take_zero, List.take_succ_cons, List.take_nil, List.drop_succ_cons, List.drop_zero, List.drop_nil, List.nil_append, List.cons_append, List.append_nil, List.length_cons, List.length_nil, Nat.zero_add, Nat.reduceAdd] at h
                refine WL.val run_assign rfl rfl ?_
                refine WL.nil ?_
                refine W.region ?_
                refine WL.val run_move rfl rfl ?_
                refine WL.val (run_fieldAddr 1 Try.underlying51 rfl Try.sizeOf3 rfl rfl) rfl rfl ?_
                refine WL.val (run_load1 Try.isAgg3 rfl (h.cellB rfl)) rfl rfl ?_
                refine WL.val (run_fieldAddr 2 Try.underlying51 rfl Try.sizeOf32 rfl rfl) rfl rfl ?_
                refine WL.val (run_load1 Try.isAgg32 rfl (h.cellB rfl)) rfl rfl ?_
                refine WL.val (run_fieldAddr 3 Try.underlying51 rfl Try.sizeOf32 rfl rfl) rfl rfl ?_
                refine WL.val (run_load1 Try.isAgg32 rfl (h.cellB rfl)) rfl rfl ?_
                refine WL.val (run_fieldAddr 4 Try.underlying51 rfl Try.sizeOf3 rfl rfl) rfl rfl ?_
                refine WL.val (run_load1 Try.isAgg3 rfl (h.cellB rfl)) rfl rfl ?_
                refine WL.eff (eff_call Try.call44 (rpreempt_ok (h.fetch (blk b' newT.cells 88)))) rfl rfl ?_
                rintro _ w ⟨s', k', c', rfl, h⟩
                refine WL.val run_move rfl rfl ?_
                refine WL.val (run_extract rfl rfl) rfl rfl ?_
                refine WL.val (run_extract rfl rfl) rfl rfl ?_
                refine WL.eff (eff_storeN (vs := [.int .i64 _, .int .i64 _, .int .i64 _, .slice _ _ _, .int .i64 _]) h Try.sizeOf28 rfl rfl rfl rfl rfl (fun k _ _ => free0 k)) rfl rfl ?_
                rintro _ w h
                try simp only [splice, List.take_zero, List.take_succ_cons, List.take_nil, List.drop_succ_cons, List.drop_zero, List.drop_nil, List.nil_append, List.cons_append, List.append_nil, List.length_cons, List.length_nil, Nat.zero_add, Nat.reduceAdd] at h
                refine WL.val run_assign rfl rfl ?_
                refine WL.nil ?_
                -- to the cut, path TFFFFT
                exact ⟨_, s, k, c, s', k', c', a, n, cc, t', mkE_of ⟨rfl, rfl, rfl, rfl, trivial⟩, hinv2, hn, h.to⟩
              · skip
                refine W.skip ?_
                -- to the cut, path TFFFFF
                exact ⟨_, 0, 0, 0, 0, 0, 0, none, 0, 0, t, mkE_of ⟨rfl, rfl, rfl, rfl, trivial⟩, hinv, Nat.zero_le _, h.to⟩
    · skip
      refine W.region ?_
      refine WL.val (run_eql rfl rfl) rfl rfl ?_
      refine WL.val run_assign rfl rfl ?_
      refine WL.nil ?_
      refine W.condIf rfl (fun c10 => ?_) (fun c10 => ?_)
      · skip
        refine W.seq ?_
        refine W.region ?_
        refine WL.val run_move rfl rfl ?_
        refine WL.val (run_fieldAddr 1 Try.underlying51 rfl Try.sizeOf3 rfl rfl) rfl rfl ?_
        refine WL.val (run_load1 Try.isAgg3 rfl (h.cellB rfl)) rfl rfl ?_
        refine WL.val (run_fieldAddr 2 Try.underlying51 rfl Try.sizeOf32 rfl rfl) rfl rfl ?_
        refine WL.val (run_load1 Try.isAgg32 rfl (h.cellB rfl)) rfl rfl ?_
        refine WL.val (run_fieldAddr 3 Try.underlying51 rfl Try.sizeOf32 rfl rfl) rfl rfl ?_
        refine WL.val (run_load1 Try.isAgg32 rfl (h.cellB rfl)) rfl rfl ?_
        refine WL.val (run_fieldAddr 0 Try.underlying51 rfl Try.sizeOf3 rfl rfl) rfl rfl ?_
        refine WL.val (run_load1 Try.isAgg3 rfl (h.cellB rfl)) rfl rfl ?_
        refine WL.val (run_eql rfl rfl) rfl rfl ?_
        refine WL.eff (eff_call Try.call9 (register_ok (t := t) (h.fetch (blk b t.cells 69)))) rfl rfl ?_
        rintro v w hv
        have hX : ∃ s k c a n cc t', v = .tuple #[rep s k c, .slice a n cc] ∧ inv t' ∧ n ≤ 8 ∧ On W0 (blk b t'.cells 69 :: blk b8 [.int .i64 0, .int .i64 0, .int .i64 0, .slice none 0 0, .int .i64 0] 28 :: blk b7 [.int .i64 0, .int .i64 0, .int .i64 0, .slice none 0 0, .int .i64 0] 28 :: blk b5 [.int .i64 aop, .int .i64 ahost, .int .u64 akey, .int .u64 aother, .int .i64 atyp] 51 :: blk b' newT.cells 88 :: L) w := by
          rcases hv with ⟨i, rfl, hi, _, a, c, rfl, h⟩ | ⟨_, s, k, c, rfl, h⟩
          · refine ⟨0, 0, 0, a, _, c, (regO t i aother).2, rfl, inv_reg hinv hi, ?_, h.to⟩
            unfold regO Tb.told
            split
            · dsimp only; split
              · exact hostsN_len ..
              · exact Nat.zero_le _
            · exact Nat.zero_le _
          · exact ⟨s, k, c, none, 0, 0, t, rfl, hinv, Nat.zero_le _, h.to⟩
        obtain ⟨s, k, c, a, n, cc, t', rfl, hinv2, hn, h⟩ := hX
        refine WL.val run_move rfl rfl ?_
        refine WL.val (run_extract rfl rfl) rfl rfl ?_
        refine WL.val (run_extract rfl rfl) rfl rfl ?_
        refine WL.eff (eff_storeN (vs := [.int .i64 _, .int .i64 _, .int .i64 _, .slice _ _ _, .int .i64 _]) h Try.sizeOf28 rfl rfl rfl rfl rfl (fun k _ _ => free0 k)) rfl rfl ?_
        rintro _ w h
        try simp only [splice, List.take_zero, List.take_succ_cons, List.take_nil, List.drop_succ_cons, List.drop_zero, List.drop_nil, List.nil_append, List.cons_append, List.append_nil, List.length_cons, List.length_nil, Nat.zero_add, Nat.reduceAdd] at h
        refine WL.val run_assign rfl rfl ?_
        refine WL.nil ?_
        refine W.region ?_
        refine WL.val run_move rfl rfl ?_
        refine WL.val (run_fieldAddr 1 Try.underlying51 rfl Try.sizeOf3 rfl rfl) rfl rfl ?_
        refine WL.val (run_load1 Try.isAgg3 rfl (h.cellB rfl)) rfl rfl ?_
        refine WL.val (run_fieldAddr 2 Try.underlying51 rfl Try.sizeOf32 rfl rfl) rfl rfl ?_
        refine WL.val (run_load1 Try.isAgg32 rfl (h.cellB rfl)) rfl rfl ?_
        refine WL.val (run_fieldAddr 3 Try.underlying51 rfl Try.sizeOf32 rfl rfl) rfl rfl ?_
        refine WL.val (run_load1 Try.isAgg32 rfl (h.cellB rfl)) rfl rfl ?_
        refine WL.val (run_fieldAddr 0 Try.underlying51 rfl Try.sizeOf3 rfl rfl) rfl rfl ?_
        refine WL.val (run_load1 Try.isAgg3 rfl (h.cellB rfl)) rfl rfl ?_
        refine WL.val (run_eql rfl rfl) rfl rfl ?_
        refine WL.eff (eff_call Try.call40 (rregister_ok (h.fetch (blk b' newT.cells 88)))) rfl rfl ?_
        rintro _ w ⟨s', k', c', rfl, h⟩
        refine WL.val run_move rfl rfl ?_
        refine WL.val (run_extract rfl rfl) rfl rfl ?_
        refine WL.val (run_extract rfl rfl) rfl rfl ?_
        refine WL.eff (eff_storeN (vs := [.int .i64 _, .int .i64 _, .int .i64 _, .slice _ _ _, .int .i64 _]) h Try.sizeOf28 rfl rfl rfl rfl rfl (fun k _ _ => free0 k)) rfl rfl ?_
        rintro _ w h
        try simp only [splice, List.take_zero, List.take_succ_cons, List.take_nil, List.drop_succ_cons, List.drop_zero, List.drop_nil, List.nil_append, List.cons_append, List.append_nil, List.length_cons, List.length_nil, Nat.zero_add, Nat.reduceAdd] at h
        refine WL.val run_assign rfl rfl ?_
        refine WL.nil ?_
        -- to the cut, path FT
        exact ⟨_, s, k, c, s', k', c', a, n, cc, t', mkE_of ⟨rfl, rfl, rfl, rfl, trivial⟩, hinv2, hn, h.to⟩
      · skip
        refine W.seq ?_
        refine W.region ?_
        refine WL.val (run_eql rfl rfl) rfl rfl ?_
        refine WL.val run_assign rfl rfl ?_
        refine WL.nil ?_
        refine W.condIf rfl (fun c14 => ?_) (fun c14 => ?_)
        · skip
          refine W.seq ?_
          refine W.region ?_
          refine WL.val run_move rfl rfl ?_
          refine WL.val (run_fieldAddr 1 Try.underlying51 rfl Try.sizeOf3 rfl rfl) rfl rfl ?_
          refine WL.val (run_load1 Try.isAgg3 rfl (h.cellB rfl)) rfl rfl ?_
          refine WL.val (run_fieldAddr 2 Try.underlying51 rfl Try.sizeOf32 rfl rfl) rfl rfl ?_
          refine WL.val (run_load1 Try.isAgg32 rfl (h.cellB rfl)) rfl rfl ?_
          refine WL.val (run_fieldAddr 4 Try.underlying51 rfl Try.sizeOf3 rfl rfl) rfl rfl ?_
          refine WL.val (run_load1 Try.isAgg3 rfl (h.cellB rfl)) rfl rfl ?_
          refine WL.eff (eff_call Try.call10 (reserve_ok (t := t) (h.fetch (blk b t.cells 69)))) rfl rfl ?_
          rintro v w hv
          have hX : ∃ s k c t', v = rep s k c ∧ inv t' ∧ On W0 (blk b t'.cells 69 :: blk b8 [.int .i64 0, .int .i64 0, .int .i64 0, .slice none 0 0, .int .i64 0] 28 :: blk b7 [.int .i64 0, .int .i64 0, .int .i64 0, .slice none 0 0, .int .i64 0] 28 :: blk b5 [.int .i64 aop, .int .i64 ahost, .int .u64 akey, .int .u64 aother, .int .i64 atyp] 51 :: blk b' newT.cells 88 :: L) w := by
            rcases hv with ⟨h1, h2, _, rfl, h⟩ | ⟨_, s, k, c, rfl, _, h⟩
            · exact ⟨0, 0, 0, t.take ahost atyp, rfl, inv_take h1 h2, h.to⟩
            · exact ⟨s, k, c, t, rfl, hinv, h.to⟩
          obtain ⟨s, k, c, t', rfl, hinv2, h⟩ := hX
          refine WL.eff (eff_storeN (vs := [.int .i64 _, .int .i64 _, .int .i64 _, .slice _ _ _, .int .i64 _]) h Try.sizeOf28 rfl rfl rfl rfl rfl (fun k _ _ => free0 k)) rfl rfl ?_
          rintro _ w h
          try simp only [splice, List.take_zero, List.take_succ_cons, List.take_nil, List.drop_succ_cons, List.drop_zero, List.drop_nil, List.nil_append, List.cons_append, List.append_nil, List.length_cons, List.length_nil, Nat.zero_add, Nat.reduceAdd] at h
          refine WL.nil ?_
          refine W.region ?_
          refine WL.val run_move rfl rfl ?_
          refine WL.val (run_fieldAddr 1 Try.underlying51 rfl Try.sizeOf3 rfl rfl) rfl rfl ?_
          refine WL.val (run_load1 Try.isAgg3 rfl (h.cellB rfl)) rfl rfl ?_
          refine WL.val (run_fieldAddr 2 Try.underlying51 rfl Try.sizeOf32 rfl rfl) rfl rfl ?_
          refine WL.val (run_load1 Try.isAgg32 rfl (h.cellB rfl)) rfl rfl ?_
          refine WL.val (run_fieldAddr 4 Try.underlying51 rfl Try.sizeOf3 rfl rfl) rfl rfl ?_
          refine WL.val (run_load1 Try.isAgg3 rfl (h.cellB rfl)) rfl rfl ?_
          refine WL.eff (eff_call Try.call41 (rreserve_ok (h.fetch (blk b' newT.cells 88)))) rfl rfl ?_
          rintro _ w ⟨s', k', c', rfl, h⟩
          refine WL.eff (eff_storeN (vs := [.int .i64 _, .int .i64 _, .int .i64 _, .slice _ _ _, .int .i64 _]) h Try.sizeOf28 rfl rfl rfl rfl rfl (fun k _ _ => free0 k)) rfl rfl ?_
          rintro _ w h
          try simp only [splice, List.take_zero, List.take_succ_cons, List.take_nil, List.drop_succ_cons, List.drop_zero, List.drop_nil, List.nil_append, List.cons_append, List.append_nil, List.length_cons, List.length_nil, Nat.zero_add, Nat.reduceAdd] at h
          refine WL.nil ?_
          -- to the cut, path FFT
          exact ⟨_, s, k, c, s', k', c', none, 0, 0, t', mkE_of ⟨rfl, rfl, rfl, rfl, trivial⟩, hinv2, Nat.zero_le _, h.to⟩
        · skip
          refine W.seq ?_
          refine W.region ?_
          refine WL.val (run_eql rfl rfl) rfl rfl ?_
          refine WL.val run_assign rfl rfl ?_
          refine WL.nil ?_
          refine W.condIf rfl (fun c18 => ?_) (fun c18 => ?_)
          · skip
            refine W.seq ?_
            refine W.region ?_
            refine WL.val run_move rfl rfl ?_
            refine WL.val (run_fieldAddr 1 Try.underlying51 rfl Try.sizeOf3 rfl rfl) rfl rfl ?_
            refine WL.val (run_load1 Try.isAgg3 rfl (h.cellB rfl)) rfl rfl ?_
            refine WL.val (run_fieldAddr 2 Try.underlying51 rfl Try.sizeOf32 rfl rfl) rfl rfl ?_
            refine WL.val (run_load1 Try.isAgg32 rfl (h.cellB rfl)) rfl rfl ?_
            refine WL.val (run_fieldAddr 4 Try.underlying51 rfl Try.sizeOf3 rfl rfl) rfl rfl ?_
            refine WL.val (run_load1 Try.isAgg3 rfl (h.cellB rfl)) rfl rfl ?_
            refine WL.eff (eff_call Try.call11 (release_ok (t := t) (h.fetch (blk b t.cells 69)))) rfl rfl ?_
            rintro v w hv
            have hX : ∃ s k c a n cc t', v = .tuple #[rep s k c, .slice a n cc] ∧ inv t' ∧ n ≤ 8 ∧ On W0 (blk b t'.cells 69 :: blk b8 [.int .i64 0, .int .i64 0, .int .i64 0, .slice none 0 0, .int .i64 0] 28 :: blk b7 [.int .i64 0, .int .i64 0, .int .i64 0, .slice none 0 0, .int .i64 0] 28 :: blk b5 [.int .i64 aop, .int .i64 ahost, .int .u64 akey, .int .u64 aother, .int .i64 atyp] 51 :: blk b' newT.cells 88 :: L) w := by
              rcases hv with ⟨_, _, _, _, a, rfl, h⟩ | ⟨_, s, k, c, rfl, h⟩
              · refine ⟨0, 0, 0, a, _, _, t.freed, rfl, inv_freed (t := t), ?_, h.to⟩
                unfold Tb.told
                split
                · exact hostsN_len ..
                · exact Nat.zero_le _
              · exact ⟨s, k, c, none, 0, 0, t, rfl, hinv, Nat.zero_le _, h.to⟩
            obtain ⟨s, k, c, a, n, cc, t', rfl, hinv2, hn, h⟩ := hX
            refine WL.val run_move rfl rfl ?_
            refine WL.val (run_extract rfl rfl) rfl rfl ?_
            refine WL.val (run_extract rfl rfl) rfl rfl ?_
            refine WL.eff (eff_storeN (vs := [.int .i64 _, .int .i64 _, .int .i64 _, .slice _ _ _, .int .i64 _]) h Try.sizeOf28 rfl rfl rfl rfl rfl (fun k _ _ => free0 k)) rfl rfl ?_
            rintro _ w h
            try simp only [splice, List.take_zero, List.take_succ_cons, List.take_nil, List.drop_succ_cons, List.drop_zero, List.drop_nil, List.nil_append, List.cons_append, List.append_nil, List.length_cons, List.length_nil, Nat.zero_add, Nat.reduceAdd] at h
            refine WL.val run_assign rfl rfl ?_
            refine WL.nil ?_
            refine W.region ?_
            refine WL.val run_move rfl rfl ?_
            refine WL.val (run_fieldAddr 1 Try.underlying51 rfl Try.sizeOf3 rfl rfl) rfl rfl ?_
            refine WL.val (run_load1 Try.isAgg3 rfl (h.cellB rfl)) rfl rfl ?_
            refine WL.val (run_fieldAddr 2 Try.underlying51 rfl Try.sizeOf32 rfl rfl) rfl rfl ?_
            refine WL.val (run_load1 Try.isAgg32 rfl (h.cellB rfl)) rfl rfl ?_
            refine WL.val (run_fieldAddr 4 Try.underlying51 rfl Try.sizeOf3 rfl rfl) rfl rfl ?_
            refine WL.val (run_load1 Try.isAgg3 rfl (h.cellB rfl)) rfl rfl ?_
            refine WL.eff (eff_call Try.call42 (rrelease_ok (h.fetch (blk b' newT.cells 88)))) rfl rfl ?_
            rintro _ w ⟨s', k', c', rfl, h⟩
            refine WL.val run_move rfl rfl ?_
            refine WL.val (run_extract rfl rfl) rfl rfl ?_
            refine WL.val (run_extract rfl rfl) rfl rfl ?_
            refine WL.eff (eff_storeN (vs := [.int .i64 _, .int .i64 _, .int .i64 _, .slice _ _ _, .int .i64 _]) h Try.sizeOf28 rfl rfl rfl rfl rfl (fun k _ _ => free0 k)) rfl rfl ?_
            rintro _ w h
            try simp only [splice, List.take_zero, List.take_succ_cons, List.take_nil, List.drop_succ_cons, List.drop_zero, List.drop_nil, List.nil_append, List.cons_append, List.append_nil, List.length_cons, List.length_nil, Nat.zero_add, Nat.reduceAdd] at h
            refine WL.val run_assign rfl rfl ?_
            refine WL.nil ?_
            -- to the cut, path FFFT
            exact ⟨_, s, k, c, s', k', c', a, n, cc, t', mkE_of ⟨rfl, rfl, rfl, rfl, trivial⟩, hinv2, hn, h.to⟩
          · skip
            refine W.seq ?_
            refine W.region ?_
            refine WL.val (run_eql rfl rfl) rfl rfl ?_
            refine WL.val run_assign rfl rfl ?_
            refine WL.nil ?_
            refine W.condIf rfl (fun c22 => ?_) (fun c22 => ?_)
            · skip
              refine W.seq ?_
              refine W.region ?_
              refine WL.val run_move rfl rfl ?_
              refine WL.val (run_fieldAddr 1 Try.underlying51 rfl Try.sizeOf3 rfl rfl) rfl rfl ?_
              refine WL.val (run_load1 Try.isAgg3 rfl (h.cellB rfl)) rfl rfl ?_
              refine WL.val (run_fieldAddr 2 Try.underlying51 rfl Try.sizeOf32 rfl rfl) rfl rfl ?_
              refine WL.val (run_load1 Try.isAgg32 rfl (h.cellB rfl)) rfl rfl ?_
              refine WL.eff (eff_call Try.call14 (clear_ok (t := t) (h.fetch (blk b t.cells 69)))) rfl rfl ?_
              rintro v w hv
              have hX : ∃ s k c a n cc t', v = .tuple #[rep s k c, .slice a n cc] ∧ inv t' ∧ n ≤ 8 ∧ On W0 (blk b t'.cells 69 :: blk b8 [.int .i64 0, .int .i64 0, .int .i64 0, .slice none 0 0, .int .i64 0] 28 :: blk b7 [.int .i64 0, .int .i64 0, .int .i64 0, .slice none 0 0, .int .i64 0] 28 :: blk b5 [.int .i64 aop, .int .i64 ahost, .int .u64 akey, .int .u64 aother, .int .i64 atyp] 51 :: blk b' newT.cells 88 :: L) w := by
                rcases hv with ⟨_, a, rfl, h⟩ | ⟨_, s, k, c, rfl, _, h⟩
                · exact ⟨0, 0, 0, a, _, _, t.cleared, rfl, inv_cleared (t := t), hostsN_len .., h.to⟩
                · exact ⟨s, k, c, none, 0, 0, t, rfl, hinv, Nat.zero_le _, h.to⟩
              obtain ⟨s, k, c, a, n, cc, t', rfl, hinv2, hn, h⟩ := hX
              refine WL.val run_move rfl rfl ?_
              refine WL.val (run_extract rfl rfl) rfl rfl ?_
              refine WL.val (run_extract rfl rfl) rfl rfl ?_
              refine WL.eff (eff_storeN (vs := [.int .i64 _, .int .i64 _, .int .i64 _, .slice _ _ _, .int .i64 _]) h Try.sizeOf28 rfl rfl rfl rfl rfl (fun k _ _ => free0 k)) rfl rfl ?_
              rintro _ w h
              try simp only [splice, List.take_zero, List.take_succ_cons, List.take_nil, List.drop_succ_cons, List.drop_zero, List.drop_nil, List.nil_append, List.cons_append, List.append_nil, List.length_cons, List.length_nil, Nat.zero_add, Nat.reduceAdd] at h
              refine WL.val run_assign rfl rfl ?_
              refine WL.nil ?_
              refine W.region ?_
              refine WL.val run_move rfl rfl ?_
              refine WL.val (run_fieldAddr 1 Try.underlying51 rfl Try.sizeOf3 rfl rfl) rfl rfl ?_
              refine WL.val (run_load1 Try.isAgg3 rfl (h.cellB rfl)) rfl rfl ?_
              refine WL.val (run_fieldAddr 2 Try.underlying51 rfl Try.sizeOf32 rfl rfl) rfl rfl ?_
              refine WL.val (run_load1 Try.isAgg32 rfl (h.cellB rfl)) rfl rfl ?_
              refine WL.eff (eff_call Try.call43 (rclear_ok (h.fetch (blk b' newT.cells 88)))) rfl rfl ?_
              rintro _ w ⟨s', k', c', rfl, h⟩
              refine WL.val run_move rfl rfl ?_
              refine WL.val (run_extract rfl rfl) rfl rfl ?_
              refine WL.val (run_extract rfl rfl) rfl rfl ?_
              refine WL.eff (eff_storeN (vs := [.int .i64 _, .int .i64 _, .int .i64 _, .slice _ _ _, .int .i64 _]) h Try.sizeOf28 rfl rfl rfl rfl rfl (fun k _ _ => free0 k)) rfl rfl ?_
              rintro _ w h
              try simp only [splice, List.take_zero, List.take_succ_cons, List.take_nil, List.drop_succ_cons, List.drop_zero, List.drop_nil, List.nil_append, List.cons_append, List.append_nil, List.length_cons, List.length_nil, Nat.zero_add, Nat.reduceAdd] at h
              refine WL.val run_assign rfl rfl ?_
              refine WL.nil ?_
              -- to the cut, path FFFFT
              exact ⟨_, s, k, c, s', k', c', a, n, cc, t', mkE_of ⟨rfl, rfl, rfl, rfl, trivial⟩, hinv2, hn, h.to⟩
            · skip
              refine W.seq ?_
              refine W.region ?_
              refine WL.val (run_eql rfl rfl) rfl rfl ?_
              refine WL.val run_assign rfl rfl ?_
              refine WL.nil ?_
              refine W.condIf rfl (fun c26 => ?_) (fun c26 => ?_)
              · skip
                refine W.seq ?_
                refine W.region ?_
                refine WL.val run_move rfl rfl ?_
                refine WL.val (run_fieldAddr 1 Try.underlying51 rfl Try.sizeOf3 rfl rfl) rfl rfl ?_
                refine WL.val (run_load1 Try.isAgg3 rfl (h.cellB rfl)) rfl rfl ?_
                refine WL.val (run_fieldAddr 2 Try.underlying51 rfl Try.sizeOf32 rfl rfl) rfl rfl ?_
                refine WL.val (run_load1 Try.isAgg32 rfl (h.cellB rfl)) rfl rfl ?_
                refine WL.val (run_fieldAddr 3 Try.underlying51 rfl Try.sizeOf32 rfl rfl) rfl rfl ?_
                refine WL.val (run_load1 Try.isAgg32 rfl (h.cellB rfl)) rfl rfl ?_
                refine WL.val (run_fieldAddr 4 Try.underlying51 rfl Try.sizeOf3 rfl rfl) rfl rfl ?_
                refine WL.val (run_load1 Try.isAgg3 rfl (h.cellB rfl)) rfl rfl ?_
                refine WL.eff (eff_call Try.call27 (preempt_ok (t := t) (inv_hold hinv) (h.fetch (blk b t.cells 69)))) rfl rfl ?_
                rintro v w hv
                have hX : ∃ s k c a n cc t', v = .tuple #[rep s k c, .slice a n cc] ∧ inv t' ∧ n ≤ 8 ∧ On W0 (blk b t'.cells 69 :: blk b8 [.int .i64 0, .int .i64 0, .int .i64 0, .slice none 0 0, .int .i64 0] 28 :: blk b7 [.int .i64 0, .int .i64 0, .int .i64 0, .slice none 0 0, .int .i64 0] 28 :: blk b5 [.int .i64 aop, .int .i64 ahost, .int .u64 akey, .int .u64 aother, .int .i64 atyp] 51 :: blk b' newT.cells 88 :: L) w := by
                  rcases hv with ⟨h1, a, rfl, h⟩ | ⟨_, s, k, c, rfl, h⟩
                  · exact ⟨0, 0, 0, a, _, _, preT t ahost aother atyp, rfl, inv_pre hinv h1, hostsN_len .., h.to⟩
                  · exact ⟨s, k, c, none, 0, 0, t, rfl, hinv, Nat.zero_le _, h.to⟩
                obtain ⟨s, k, c, a, n, cc, t', rfl, hinv2, hn, h⟩ := hX
                refine WL.val run_move rfl rfl ?_
                refine WL.val (run_extract rfl rfl) rfl rfl ?_
                refine WL.val (run_extract rfl rfl) rfl rfl ?_
                refine WL.eff (eff_storeN (vs := [.int .i64 _, .int .i64 _, .int .i64 _, .slice _ _ _, .int .i64 _]) h Try.sizeOf28 rfl rfl rfl rfl rfl (fun k _ _ => free0 k)) rfl rfl ?_
                rintro _ w h
                try simp only [splice, List.take_zero, List.take_succ_cons, List.take_nil, List.drop_succ_cons, List.drop_zero, List.drop_nil, List.nil_append, List.cons_append, List.append_nil, List.length_cons, List.length_nil, Nat.zero_add, Nat.reduceAdd] at h
                refine WL.val run_assign rfl rfl ?_
                refine WL.nil ?_
                refine W.region ?_
                refine WL.val run_move rfl rfl ?_
                refine WL.val (run_fieldAddr 1 Try.underlying51 rfl Try.sizeOf3 rfl rfl) rfl rfl ?_
                refine WL.val (run_load1 Try.isAgg3 rfl (h.cellB rfl)) rfl rfl ?_
                refine WL.val (run_fieldAddr 2 Try.underlying51 rfl Try.sizeOf32 rfl rfl) rfl rfl ?_
                refine WL.val (run_load1 Try.isAgg32 rfl (h.cellB rfl)) rfl rfl ?_
                refine WL.val (run_fieldAddr 3 Try.underlying51 rfl Try.sizeOf32 rfl rfl) rfl rfl ?_
                refine WL.val (run_load1 Try.isAgg32 rfl (h.cellB rfl)) rfl rfl ?_
                refine WL.val (run_fieldAddr 4 Try.underlying51 rfl Try.sizeOf3 rfl rfl) rfl rfl ?_
                refine WL.val (run_load1 Try.isAgg3 rfl (h.cellB rfl)) rfl rfl ?_
                refine WL.eff (eff_call Try.call44 (rpreempt_ok (h.fetch (blk b' newT.cells 88)))) rfl rfl ?_
                rintro _ w ⟨s', k', c', rfl, h⟩
                refine WL.val run_move rfl rfl ?_
                refine WL.val (run_extract rfl rfl) rfl rfl ?_
                refine WL.val (run_extract rfl rfl) rfl rfl ?_
                refine WL.eff (eff_storeN (vs := [.int .i64 _, .int .i64 _, .int .i64 _, .slice _ _ _, .int .i64 _]) h Try.sizeOf28 rfl rfl rfl rfl rfl (fun k _ _ => free0 k)) rfl rfl ?_
                rintro _ w h
                try simp only [splice, List.take_zero, List.take_succ_cons, List.take_nil, List.drop_succ_cons, List.drop_zero, List.drop_nil, List.nil_append, List.cons_append, List.append_nil, List.length_cons, List.length_nil, Nat.zero_add, Nat.reduceAdd] at h
                refine WL.val run_assign rfl rfl ?_
                refine WL.nil ?_
                -- to the cut, path FFFFFT
                exact ⟨_, s, k, c, s', k', c', a, n, cc, t', mkE_of ⟨rfl, rfl, rfl, rfl, trivial⟩, hinv2, hn, h.to⟩
              · skip
                refine W.skip ?_
                -- to the cut, path FFFFFF
                exact ⟨_, 0, 0, 0, 0, 0, 0, none, 0, 0, t, mkE_of ⟨rfl, rfl, rfl, rfl, trivial⟩, hinv, Nat.zero_le _, h.to⟩
  · rintro env w ⟨j, s, k, c, s', k', c', a, n, cc, t', rfl, hinv2, hn, h⟩
    refine W.seq ?_
    refine W.region ?_
    refine WL.val (run_loadB (vs := [.int .i64 _, .int .i64 _, .int .i64 _, .slice _ _ _, .int .i64 _]) h Try.isAgg28 Try.sizeOf28 rfl rfl rfl) rfl rfl ?_
    refine WL.val (run_loadB (vs := [.int .i64 _, .int .i64 _, .int .i64 _, .slice _ _ _, .int .i64 _]) h Try.isAgg28 Try.sizeOf28 rfl rfl rfl) rfl rfl ?_
    refine WL.eff (eff_call Try.call45 (rsame_ok h)) rfl rfl ?_
    rintro _ w ⟨⟨r, rfl⟩, h⟩
    refine WL.boolB run_move rfl rfl (fun c137 => ?_) (fun c137 => ?_)
    · skip
      refine WL.val run_move rfl rfl ?_
      refine WL.val run_move rfl rfl ?_
      refine WL.eff (eff_call Try.call46 (rnotes_ok hn h)) rfl rfl ?_
      rintro _ w ⟨⟨r2, rfl⟩, h⟩
      refine WL.val (run_pickT rfl) rfl rfl ?_
      refine WL.val run_assign rfl rfl ?_
      refine WL.nil ?_
      refine W.ret ?_
      refine bodyQ.r1 (v := .bool _) Try.results16 rfl ?_
      -- path T
      exact ⟨⟨_, rfl⟩, t', hinv2, h.to⟩
    · skip
      refine WL.skip rfl rfl ?_
      refine WL.skip rfl rfl ?_
      refine WL.skip rfl rfl ?_
      refine WL.val (run_pickF rfl) rfl rfl ?_
      refine WL.val run_assign rfl rfl ?_
      refine WL.nil ?_
      refine W.ret ?_
      refine bodyQ.r1 (v := .bool _) Try.results16 rfl ?_
      -- path F
      exact ⟨⟨_, rfl⟩, t', hinv2, h.to⟩

end Go.Proofs.Ytbfdkalcpacaaaa
