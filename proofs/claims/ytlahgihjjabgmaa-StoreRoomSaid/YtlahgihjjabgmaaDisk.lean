/-
  The contracts of disks. Lines of walks printed by a program of the prover's.
-/
import Derived.Test.YtlahgihjjabgmaaChecked
import Derived.Test.YtlahgihjjabgmaaDiskCrash
namespace Go.Proofs.Ytlahgihjjabgmaa
open Go Go.Sl Go.Sl.DkM
set_option linter.unusedVariables false
set_option linter.unusedSimpArgs false
set_option maxHeartbeats 1000000
set_option maxRecDepth 8000
theorem Try.follows : Try.prog.follows .mixedOrders = true := by kernel_rfl
variable {W0 w : World} {L F : List HProp}


theorem row_one {l : List Value} {i : Nat} {u : Value} (h : l[i]? = some u) : (l.drop i).take 1 = [u] := by
  have hlt := (List.getElem?_eq_some_iff.1 h).1
  rw [List.drop_eq_getElem_cons hlt, List.take_succ_cons, List.take_zero, (List.getElem?_eq_some_iff.1 h).2]

theorem state_ok {b : Nat} {d : Dk} {pa : Option Addr} {pn pc : Nat} (h : On W0 (DiskQ 106 110 b d pa pn pc :: L) w) : Calls Try.prog 65 #[.pointer (some ⟨b, 0, none⟩)] w (Ret fun v w' => v = .int .i64 (stE d) ∧ On W0 (DiskQ 106 110 b d pa pn pc :: L) w') := by
  refine enter Try.func65 rfl Try.ntmps65 rfl ?_
  have ob_ := openQ h
  obtain ⟨mb, ck, rows, pool, hok, hm, h⟩ := ob_
  refine W.seq ?_
  refine W.region ?_
  refine WL.val run_assign rfl rfl ?_
  refine WL.nil ?_
  refine W.seq ?_
  refine W.block ?_
  refine W.seq ?_
  refine W.region ?_
  refine WL.val run_move rfl rfl ?_
  refine WL.val (run_nilCheck rfl) rfl rfl ?_
  refine WL.val (run_fieldAddr 3 Try.underlying106 rfl Try.sizeOf4 rfl rfl) rfl rfl ?_
  refine WL.val (run_load1 Try.isAgg4 rfl (h.cellB rfl)) rfl rfl ?_
  refine WL.val run_assign rfl rfl ?_
  refine WL.nil ?_
  refine W.condB rfl (fun c3 => ?_) (fun c3 => ?_)
  · skip
    refine W.seq ?_
    refine W.region ?_
    refine WL.val run_assign rfl rfl ?_
    refine WL.nil ?_
    refine W.ret ?_
    refine bodyQ.r1 (v := .int .i64 _) Try.results65 rfl ?_
    -- path T
    exact ⟨by unfold stE; rw [if_pos c3], closeQ (d := d) (mb := mb) (ck := ck) (rows := rows) (pool := pool) hok hm h⟩
  · skip
    refine W.seq ?_
    refine W.region ?_
    refine WL.val run_move rfl rfl ?_
    refine WL.val (run_nilCheck rfl) rfl rfl ?_
    refine WL.val (run_fieldAddr 2 Try.underlying106 rfl Try.sizeOf4 rfl rfl) rfl rfl ?_
    refine WL.val (run_load1 Try.isAgg4 rfl (h.cellB rfl)) rfl rfl ?_
    refine WL.val run_assign rfl rfl ?_
    refine WL.nil ?_
    refine W.condB rfl (fun c7 => ?_) (fun c7 => ?_)
    · skip
      refine W.seq ?_
      refine W.region ?_
      refine WL.val run_assign rfl rfl ?_
      refine WL.nil ?_
      refine W.ret ?_
      refine bodyQ.r1 (v := .int .i64 _) Try.results65 rfl ?_
      -- path FT
      exact ⟨by unfold stE; rw [if_neg (by rw [c3]; decide), if_pos c7], closeQ (d := d) (mb := mb) (ck := ck) (rows := rows) (pool := pool) hok hm h⟩
    · skip
      refine W.skip ?_
      refine W.seq ?_
      refine W.region ?_
      refine WL.val run_assign rfl rfl ?_
      refine WL.nil ?_
      refine W.ret ?_
      refine bodyQ.r1 (v := .int .i64 _) Try.results65 rfl ?_
      -- path FF
      exact ⟨by unfold stE; rw [if_neg (by rw [c3]; decide), if_neg (by rw [c7]; decide)], closeQ (d := d) (mb := mb) (ck := ck) (rows := rows) (pool := pool) hok hm h⟩

theorem stateP {b : Nat} {d : Dk} (h : On W0 (DiskP 106 110 b d :: L) w) : Calls Try.prog 65 #[.pointer (some ⟨b, 0, none⟩)] w (Ret fun v w' => v = .int .i64 (stE d) ∧ On W0 (DiskP 106 110 b d :: L) w') := by
  obtain ⟨pa, pc, h⟩ := openP h
  refine (state_ok h).mono fun e w' he => ?_
  obtain ⟨v, he, hv, h⟩ := he
  exact ⟨v, he, hv, closeP h⟩

theorem din_ok {b : Nat} {d : Dk} {pa : Option Addr} {pn pc : Nat} {k : Int} (h : On W0 (DiskQ 106 110 b d pa pn pc :: L) w) : Calls Try.prog 66 #[.pointer (some ⟨b, 0, none⟩), .int .i64 k] w (Ret fun v w' => v = .bool (decide (0 ≤ k ∧ k < d.n)) ∧ On W0 (DiskQ 106 110 b d pa pn pc :: L) w') := by
  refine enter Try.func66 rfl Try.ntmps66 rfl ?_
  have ob_ := openQ h
  obtain ⟨mb, ck, rows, pool, hok, hm, h⟩ := ob_
  refine W.seq ?_
  refine W.region ?_
  refine WL.val run_assign rfl rfl ?_
  refine WL.nil ?_
  refine W.seq ?_
  refine W.region ?_
  refine WL.val run_move rfl rfl ?_
  refine WL.dec (run_geq rfl rfl) rfl rfl (fun c6 => ?_) (fun c6 => ?_)
  · skip
    refine WL.val run_move rfl rfl ?_
    refine WL.val run_move rfl rfl ?_
    refine WL.val run_move rfl rfl ?_
    refine WL.val (run_nilCheck rfl) rfl rfl ?_
    refine WL.val (run_fieldAddr 0 Try.underlying106 rfl Try.sizeOf3 rfl rfl) rfl rfl ?_
    refine WL.val (run_load1 Try.isAgg3 rfl (h.cellB rfl)) rfl rfl ?_
    refine WL.dec (run_lss rfl rfl) rfl rfl (fun c13 => ?_) (fun c13 => ?_)
    · skip
      refine WL.val (run_pickT rfl) rfl rfl ?_
      refine WL.val run_assign rfl rfl ?_
      refine WL.nil ?_
      refine W.ret ?_
      refine bodyQ.r1 (v := .bool _) Try.results66 rfl ?_
      -- path TT
      exact ⟨by rw [decide_eq_true (by omega)], closeQ (d := d) (mb := mb) (ck := ck) (rows := rows) (pool := pool) hok hm h⟩
    · skip
      refine WL.val (run_pickT rfl) rfl rfl ?_
      refine WL.val run_assign rfl rfl ?_
      refine WL.nil ?_
      refine W.ret ?_
      refine bodyQ.r1 (v := .bool _) Try.results66 rfl ?_
      -- path TF
      exact ⟨by rw [decide_eq_false (by omega)], closeQ (d := d) (mb := mb) (ck := ck) (rows := rows) (pool := pool) hok hm h⟩
  · skip
    refine WL.val run_move rfl rfl ?_
    refine WL.skip rfl rfl ?_
    refine WL.skip rfl rfl ?_
    refine WL.skip rfl rfl ?_
    refine WL.skip rfl rfl ?_
    refine WL.skip rfl rfl ?_
    refine WL.skip rfl rfl ?_
    refine WL.val (run_pickF rfl) rfl rfl ?_
    refine WL.val run_assign rfl rfl ?_
    refine WL.nil ?_
    refine W.ret ?_
    refine bodyQ.r1 (v := .bool _) Try.results66 rfl ?_
    -- path F
    exact ⟨by rw [decide_eq_false (by omega)], closeQ (d := d) (mb := mb) (ck := ck) (rows := rows) (pool := pool) hok hm h⟩

theorem dinP {b : Nat} {d : Dk} {k : Int} (h : On W0 (DiskP 106 110 b d :: L) w) : Calls Try.prog 66 #[.pointer (some ⟨b, 0, none⟩), .int .i64 k] w (Ret fun v w' => v = .bool (decide (0 ≤ k ∧ k < d.n)) ∧ On W0 (DiskP 106 110 b d :: L) w') := by
  obtain ⟨pa, pc, h⟩ := openP h
  refine (din_ok h).mono fun e w' he => ?_
  obtain ⟨v, he, hv, h⟩ := he
  exact ⟨v, he, hv, closeP h⟩

theorem don_ok {b : Nat} {d : Dk} (h : On W0 (DiskP 106 110 b d :: L) w) : Calls Try.prog 20 #[.pointer (some ⟨b, 0, none⟩)] w (Ret fun v w' => On W0 (DiskP 106 110 b { d with off := false, armed := 0 } :: L) w') := by
  refine enter Try.func20 rfl Try.ntmps20 rfl ?_
  have ob_ := openP h
  obtain ⟨pa, pc, h⟩ := ob_
  have ob_ := openQ h
  obtain ⟨mb, ck, rows, pool, hok, hm, h⟩ := ob_
  refine W.region ?_
  refine WL.val run_move rfl rfl ?_
  refine WL.val run_move rfl rfl ?_
  refine WL.val (run_nilCheck rfl) rfl rfl ?_
  refine WL.val (run_fieldAddr 2 Try.underlying106 rfl Try.sizeOf4 rfl rfl) rfl rfl ?_
  refine WL.eff (eff_store (v := .bool _) h Try.sizeOf4 rfl rfl rfl rfl rfl) rfl rfl ?_
  rintro _ w h
  try simp only [Nat.zero_add, Nat.add_zero, List.set_cons_zero, List.set_cons_succ] at h
  refine WL.val (run_nilCheck rfl) rfl rfl ?_
  refine WL.val (run_fieldAddr 4 Try.underlying106 rfl Try.sizeOf3 rfl rfl) rfl rfl ?_
  refine WL.eff (eff_store (v := .int .i64 _) h Try.sizeOf3 rfl rfl rfl rfl rfl) rfl rfl ?_
  rintro _ w h
  try simp only [Nat.zero_add, Nat.add_zero, List.set_cons_zero, List.set_cons_succ] at h
  refine WL.nil ?_
  refine bodyQ.fall ?_
  refine bodyQ.r0 Try.results20 ?_
  -- path 
  have h := closeQ (d := { d with off := false, armed := 0 }) (mb := mb) (ck := ck) (rows := rows) (pool := pool) hok hm h
  exact closeP (d := { d with off := false, armed := 0 }) h

theorem calls_ok {b : Nat} {d : Dk} (h : On W0 (DiskP 106 110 b d :: L) w) : Calls Try.prog 64 #[.pointer (some ⟨b, 0, none⟩)] w (Ret fun v w' => v = .int .i64 d.calls ∧ On W0 (DiskP 106 110 b d :: L) w') := by
  refine enter Try.func64 rfl Try.ntmps64 rfl ?_
  have ob_ := openP h
  obtain ⟨pa, pc, h⟩ := ob_
  have ob_ := openQ h
  obtain ⟨mb, ck, rows, pool, hok, hm, h⟩ := ob_
  refine W.seq ?_
  refine W.region ?_
  refine WL.val run_assign rfl rfl ?_
  refine WL.nil ?_
  refine W.seq ?_
  refine W.region ?_
  refine WL.val run_move rfl rfl ?_
  refine WL.val (run_nilCheck rfl) rfl rfl ?_
  refine WL.val (run_fieldAddr 6 Try.underlying106 rfl Try.sizeOf3 rfl rfl) rfl rfl ?_
  refine WL.val (run_load1 Try.isAgg3 rfl (h.cellB rfl)) rfl rfl ?_
  refine WL.val run_assign rfl rfl ?_
  refine WL.nil ?_
  refine W.ret ?_
  refine bodyQ.r1 (v := .int .i64 _) Try.results64 rfl ?_
  -- path 
  have h := closeQ (d := d) (mb := mb) (ck := ck) (rows := rows) (pool := pool) hok hm h
  exact ⟨rfl, closeP h⟩

theorem sectors_ok {b : Nat} {d : Dk} (h : On W0 (DiskP 106 110 b d :: L) w) : Calls Try.prog 63 #[.pointer (some ⟨b, 0, none⟩)] w (Ret fun v w' => v = .int .i64 d.n ∧ On W0 (DiskP 106 110 b d :: L) w') := by
  refine enter Try.func63 rfl Try.ntmps63 rfl ?_
  have ob_ := openP h
  obtain ⟨pa, pc, h⟩ := ob_
  have ob_ := openQ h
  obtain ⟨mb, ck, rows, pool, hok, hm, h⟩ := ob_
  refine W.seq ?_
  refine W.region ?_
  refine WL.val run_assign rfl rfl ?_
  refine WL.nil ?_
  refine W.seq ?_
  refine W.region ?_
  refine WL.val run_move rfl rfl ?_
  refine WL.val (run_nilCheck rfl) rfl rfl ?_
  refine WL.val (run_fieldAddr 0 Try.underlying106 rfl Try.sizeOf3 rfl rfl) rfl rfl ?_
  refine WL.val (run_load1 Try.isAgg3 rfl (h.cellB rfl)) rfl rfl ?_
  refine WL.val run_assign rfl rfl ?_
  refine WL.nil ?_
  refine W.ret ?_
  refine bodyQ.r1 (v := .int .i64 _) Try.results63 rfl ?_
  -- path 
  have h := closeQ (d := d) (mb := mb) (ck := ck) (rows := rows) (pool := pool) hok hm h
  exact ⟨rfl, closeP h⟩

theorem now_ok {r : Rw} {pool : PoolL} (h : On W0 (SecA 110 pool r :: L) w) : Calls Try.prog 69 #[.pointer (some ⟨r.p, 0, none⟩)] w (Ret fun v w' => InP pool v r.s.now ∧ v.oneCell' = true ∧ On W0 (SecA 110 pool r :: L) w') := by
  refine enter Try.func69 rfl Try.ntmps69 rfl ?_
  have ob_ := openS h
  obtain ⟨vk, a, c, vs, hvk, hv1, hws, h⟩ := ob_
  have ob_ := Own.bounds h.p1
  obtain ⟨hbc, hbm⟩ := ob_
  have hmx := maxLen_eq
  refine W.seq ?_
  refine W.region ?_
  refine WL.val run_assign rfl rfl ?_
  refine WL.nil ?_
  refine W.seq ?_
  refine W.seq ?_
  refine W.region ?_
  refine WL.val run_move rfl rfl ?_
  refine WL.val (run_nilCheck rfl) rfl rfl ?_
  refine WL.val (run_fieldAddr 1 Try.underlying110 rfl Try.sizeOf23 rfl rfl) rfl rfl ?_
  refine WL.val (run_load1 Try.isAgg23 rfl (h.cellB rfl)) rfl rfl ?_
  refine WL.val (run_lenSlice Try.underlying23 rfl) rfl rfl ?_
  refine WL.val run_assign rfl rfl ?_
  refine WL.nil ?_
  refine W.seq ?_
  refine W.region ?_
  refine WL.val run_move rfl rfl ?_
  refine WL.val (run_gtr rfl rfl) rfl rfl ?_
  refine WL.nil ?_
  refine W.condIf rfl (fun c3 => ?_) (fun c3 => ?_)
  · skip
    refine W.seq ?_
    have ob_ : ∃ x, r.s.wait[r.s.wait.length - 1]? = some x := ⟨r.s.wait[r.s.wait.length - 1]'(by omega), by simp⟩
    obtain ⟨x, hx⟩ := ob_
    have hvl := hws.1
    have ob_ : ∃ u, vs[r.s.wait.length - 1]? = some u := ⟨vs[r.s.wait.length - 1]'(by omega), by simp⟩
    obtain ⟨u, hu⟩ := ob_
    have ob_ := Own.addr h.p1 (by omega)
    obtain ⟨ba, oa, rfl⟩ := ob_
    have ob_ := hws.2 _ u x hu hx
    obtain ⟨hup, hu1⟩ := ob_
    have hnow : r.s.now = x := by unfold Sec.now; rw [List.getLast?_eq_getElem?, hx]; rfl
    refine W.region ?_
    refine WL.val run_move rfl rfl ?_
    refine WL.val (run_nilCheck rfl) rfl rfl ?_
    refine WL.val (run_fieldAddr 1 Try.underlying110 rfl Try.sizeOf23 rfl rfl) rfl rfl ?_
    refine WL.val (run_load1 Try.isAgg23 rfl (h.cellB rfl)) rfl rfl ?_
    refine WL.val run_move rfl rfl ?_
    refine WL.val (run_subN (m := r.s.wait.length) (n := 1) rfl rfl (by omega) (by omega)) rfl rfl ?_
    refine WL.val (run_indexAddr Try.underlying23 Try.sizeOf22 rfl rfl (by omega) (by omega)) rfl rfl ?_
    refine WL.val (run_load1 Try.isAgg22 rfl ((h.cellsO (v := .slice (some ⟨ba, oa, none⟩) r.s.wait.length c)).elem (i := r.s.wait.length - 1) (vs := [u]) (by omega) (by rw [Nat.mul_one]; exact row_one hu) 0 _ rfl)) rfl rfl ?_
    refine WL.val run_assign rfl rfl ?_
    refine WL.nil ?_
    refine W.ret ?_
    refine bodyQ.r1 (v := u) Try.results69 rfl ?_
    -- path T
    exact ⟨by rw [hnow]; exact hup, hu1, closeS (a := some ⟨ba, oa, none⟩) (c := c) hvk hv1 hws h⟩
  · skip
    refine W.skip ?_
    refine W.seq ?_
    refine W.region ?_
    refine WL.val run_move rfl rfl ?_
    refine WL.val (run_nilCheck rfl) rfl rfl ?_
    refine WL.val (run_fieldAddr 0 Try.underlying110 rfl Try.sizeOf22 rfl rfl) rfl rfl ?_
    refine WL.val (run_load1 Try.isAgg22 rfl (h.cellB rfl)) rfl rfl ?_
    refine WL.val run_assign rfl rfl ?_
    refine WL.nil ?_
    refine W.ret ?_
    refine bodyQ.r1 (v := vk) Try.results69 rfl ?_
    -- path F
    have hw0 : r.s.wait = [] := List.eq_nil_of_length_eq_zero (by omega)
    have hnow : r.s.now = r.s.kept := by unfold Sec.now; rw [hw0]; rfl
    exact ⟨by rw [hnow]; exact hvk, hv1, closeS (a := a) (c := c) hvk hv1 hws h⟩

end Go.Proofs.Ytlahgihjjabgmaa
