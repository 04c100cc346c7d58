/-
  The contracts of disks. Lines of walks printed by a program of the prover's.
-/
import Derived.Test.YtlahgihjjabgmaaDisk2
import Derived.Test.YtlahgihjjabgmaaDiskCrash
namespace Go.Proofs.Ytlahgihjjabgmaa
open Go Go.Sl Go.Sl.DkM
set_option linter.unusedVariables false
set_option linter.unusedSimpArgs false
set_option maxHeartbeats 1000000
set_option maxRecDepth 8000
variable {W0 w : World} {L F : List HProp}

theorem clone_bytes {ao : Option Addr} {cap : Nat} {bs : List UInt8} (h : On W0 L w) (C : Gives L (Bytes (.slice ao bs.length cap) bs)) (hn : bs.length ≤ 140737488355328) :
    Calls Try.prog 68 #[.slice ao bs.length cap] w (Ret fun v w' => ∃ a c, v = .slice a bs.length c ∧ On W0 (OwnB (.slice a bs.length c) bs :: L) w') := by
  refine enter Try.func68 rfl Try.ntmps68 rfl ?_
  have ob_ := (h.reads C).form
  obtain ⟨ao', cap', hv, hnc, hcm, hnone⟩ := ob_
  simp only [Value.slice.injEq] at hv
  obtain ⟨rfl, _, rfl⟩ := hv
  have hl := maxLen_eq
  refine W.seq ?_
  refine W.region ?_
  refine WL.val run_assign rfl rfl ?_
  refine WL.nil ?_
  refine W.seq ?_
  refine W.seq ?_
  refine W.region ?_
  refine WL.val run_move rfl rfl ?_
  refine WL.val (run_eqlSliceNil Try.underlying22 rfl rfl) rfl rfl ?_
  refine WL.nil ?_
  refine W.condB rfl (fun c2 => ?_) (fun c2 => ?_)
  · skip
    refine W.seq ?_
    refine W.region ?_
    refine WL.val run_assign rfl rfl ?_
    refine WL.nil ?_
    refine W.ret ?_
    refine bodyQ.r1 (v := .slice _ _ _) Try.results68 rfl ?_
    -- path T
    have h0 : cap = 0 := hnone (by simpa using c2)
    have hb : bs = [] := List.eq_nil_of_length_eq_zero (by omega)
    subst hb
    exact ⟨none, 0, rfl, h.ownEmpty 1 none⟩
  · skip
    refine W.skip ?_
    refine W.seq ?_
    refine W.region ?_
    refine WL.eff (eff_mkSlice (zl := []) (out := []) h Try.underlying22 Try.sizeOf5 Try.zeroValue5 (by decide) (by simp) rfl rfl (by simp) (trivial) rfl rfl (by simp [maxLen])) rfl rfl ?_
    rintro _ w ⟨b5, rfl, h⟩
    refine WL.val run_move rfl rfl ?_
    refine WL.eff (eff_app0 (bytes := 1) h rfl rfl (h.readsTo C) Try.underlying22 rfl rfl rfl rfl rfl (by omega) (by omega) bytes_one) rfl rfl ?_
    rintro _ w ⟨a, c, rfl, h⟩
    refine WL.val run_assign rfl rfl ?_
    refine WL.nil ?_
    refine W.ret ?_
    refine bodyQ.r1 (v := .slice _ _ _) Try.results68 rfl ?_
    -- path F
    exact ⟨_, _, rfl, h⟩

theorem clone_ints {ao : Option Addr} {cap : Nat} {l : List Int} (h : On W0 L w) (C : Gives L (Cells 1 (.slice ao l.length cap) l.length (intsV l))) (hn : l.length ≤ 1000000000000) :
    Calls Try.prog 94 #[.slice ao l.length cap] w (Ret fun v w' => ∃ a c, v = .slice a l.length c ∧ On W0 (Own 1 (.slice a l.length c) l.length (intsV l) :: L) w') := by
  refine enter Try.func94 rfl Try.ntmps94 rfl ?_
  have ob_ := (h.reads C).form
  obtain ⟨ao', cap', hv, hnc, hcm, hnone⟩ := ob_
  simp only [Value.slice.injEq] at hv
  obtain ⟨rfl, _, rfl⟩ := hv
  have hl := maxLen_eq
  refine W.seq ?_
  refine W.region ?_
  refine WL.val run_assign rfl rfl ?_
  refine WL.nil ?_
  refine W.seq ?_
  refine W.seq ?_
  refine W.region ?_
  refine WL.val run_move rfl rfl ?_
  refine WL.val (run_eqlSliceNil Try.underlying24 rfl rfl) rfl rfl ?_
  refine WL.nil ?_
  refine W.condB rfl (fun c2 => ?_) (fun c2 => ?_)
  · skip
    refine W.seq ?_
    refine W.region ?_
    refine WL.val run_assign rfl rfl ?_
    refine WL.nil ?_
    refine W.ret ?_
    refine bodyQ.r1 (v := .slice _ _ _) Try.results94 rfl ?_
    -- path T
    have h0 : cap = 0 := hnone (by simpa using c2)
    have hb : l = [] := List.eq_nil_of_length_eq_zero (by omega)
    subst hb
    exact ⟨none, 0, rfl, h.ownEmpty 1 none⟩
  · skip
    refine W.skip ?_
    refine W.seq ?_
    refine W.region ?_
    refine WL.eff (eff_mkSlice (zl := []) (out := []) h Try.underlying24 Try.sizeOf3 Try.zeroValue3 (by decide) (by simp) rfl rfl (by simp) (trivial) rfl rfl (by simp [maxLen])) rfl rfl ?_
    rintro _ w ⟨b5, rfl, h⟩
    refine WL.val run_move rfl rfl ?_
    refine WL.eff (eff_app0 (bytes := 8) h rfl rfl (h.readsTo C) Try.underlying24 rfl rfl rfl rfl rfl (by omega) (by omega) (intsV_one l)) rfl rfl ?_
    rintro _ w ⟨a, c, rfl, h⟩
    refine WL.val run_assign rfl rfl ?_
    refine WL.nil ?_
    refine W.ret ?_
    refine bodyQ.r1 (v := .slice _ _ _) Try.results94 rfl ?_
    -- path F
    exact ⟨_, _, rfl, h⟩

theorem call_ok {b : Nat} {d : Dk} (hlow : d.low) (h : On W0 (DiskP 106 110 b d :: L) w) : Calls Try.prog 67 #[.pointer (some ⟨b, 0, none⟩)] w (Ret fun v w' => v = .int .i64 (callD d).1 ∧ On W0 (DiskP 106 110 b (callD d).2 :: L) w') := by
  refine enter Try.func67 rfl Try.ntmps67 rfl ?_
  have ob_ := openP h
  obtain ⟨pa, pc, h⟩ := ob_
  have ob_ := openQ h
  obtain ⟨mb, ck, rows, pool, hok, hm, h⟩ := ob_
  obtain ⟨hcl, har⟩ := hlow
  have hc0 := hok.2.1
  refine W.seq ?_
  refine W.region ?_
  refine WL.val run_assign rfl rfl ?_
  refine WL.nil ?_
  refine W.seq ?_
  refine W.seq ?_
  refine W.region ?_
  refine WL.val run_move rfl rfl ?_
  refine WL.val (run_nilCheck rfl) rfl rfl ?_
  refine WL.val (run_fieldAddr 4 Try.underlying106 rfl Try.sizeOf3 rfl rfl) rfl rfl ?_
  refine WL.val (run_load1 Try.isAgg3 rfl (h.cellB rfl)) rfl rfl ?_
  refine WL.val (run_gtr rfl rfl) rfl rfl ?_
  refine WL.nil ?_
  refine W.condIf rfl (fun c2 => ?_) (fun c2 => ?_)
  · skip
    refine W.seq ?_
    refine W.region ?_
    refine WL.val run_move rfl rfl ?_
    refine WL.val (run_nilCheck rfl) rfl rfl ?_
    refine WL.val (run_fieldAddr 4 Try.underlying106 rfl Try.sizeOf3 rfl rfl) rfl rfl ?_
    refine WL.val (run_load1 Try.isAgg3 rfl (h.cellB rfl)) rfl rfl ?_
    refine WL.val (run_sub rfl rfl (by omega) (by omega)) rfl rfl ?_
    refine WL.val (run_nilCheck rfl) rfl rfl ?_
    refine WL.val (run_fieldAddr 4 Try.underlying106 rfl Try.sizeOf3 rfl rfl) rfl rfl ?_
    refine WL.eff (eff_store (v := .int .i64 _) h Try.sizeOf3 rfl rfl rfl rfl rfl) rfl rfl ?_
    rintro _ w h
    try simp only [Nat.zero_add, Nat.add_zero, List.set_cons_zero, List.set_cons_succ] at h
    refine WL.nil ?_
    refine W.seq ?_
    refine W.region ?_
    refine WL.val run_move rfl rfl ?_
    refine WL.val (run_nilCheck rfl) rfl rfl ?_
    refine WL.val (run_fieldAddr 4 Try.underlying106 rfl Try.sizeOf3 rfl rfl) rfl rfl ?_
    refine WL.val (run_load1 Try.isAgg3 rfl (h.cellB rfl)) rfl rfl ?_
    refine WL.val (run_eql rfl rfl) rfl rfl ?_
    refine WL.nil ?_
    refine W.condIf rfl (fun c5 => ?_) (fun c5 => ?_)
    · skip
      refine W.seq ?_
      have h1 : d.armed = 1 := by omega
      have e1 : d.armed - 1 = 0 := by omega
      rw [e1] at h
      have hok2 : Dk.ok { d with armed := 0 } := hok
      refine W.region ?_
      refine WL.val run_move rfl rfl ?_
      refine WL.val run_move rfl rfl ?_
      refine WL.val (run_nilCheck rfl) rfl rfl ?_
      refine WL.val (run_fieldAddr 5 Try.underlying106 rfl Try.sizeOf24 rfl rfl) rfl rfl ?_
      refine WL.val (run_load1 Try.isAgg24 rfl (h.cellB rfl)) rfl rfl ?_
      refine WL.eff (eff_call Try.call19 (crash_ok (d := { d with armed := 0 }) (Int.le_trans hcl (by decide)) (closeQ (d := { d with armed := 0 }) (mb := mb) (ck := ck) (rows := rows) (pool := pool) hok2 hm h) (Gives.ownO (v := .slice pa d.picks.length pc)))) rfl rfl ?_
      rintro _ w h
      refine WL.nil ?_
      refine W.seq ?_
      refine W.region ?_
      refine WL.val run_assign rfl rfl ?_
      refine WL.nil ?_
      refine W.ret ?_
      refine bodyQ.r1 (v := .int .i64 _) Try.results67 rfl ?_
      -- path TT
      rw [callD_last h1]
      exact ⟨rfl, closePe (crashD_picks _ _) h⟩
    · skip
      refine W.skip ?_
      refine W.seq ?_
      skip
      refine W.region ?_
      refine WL.val run_move rfl rfl ?_
      refine WL.val (run_nilCheck rfl) rfl rfl ?_
      refine WL.val (run_fieldAddr 6 Try.underlying106 rfl Try.sizeOf3 rfl rfl) rfl rfl ?_
      refine WL.val (run_load1 Try.isAgg3 rfl (h.cellB rfl)) rfl rfl ?_
      refine WL.val (run_add rfl rfl (by omega) (by omega)) rfl rfl ?_
      refine WL.val (run_nilCheck rfl) rfl rfl ?_
      refine WL.val (run_fieldAddr 6 Try.underlying106 rfl Try.sizeOf3 rfl rfl) rfl rfl ?_
      refine WL.eff (eff_store (v := .int .i64 _) h Try.sizeOf3 rfl rfl rfl rfl rfl) rfl rfl ?_
      rintro _ w h
      try simp only [Nat.zero_add, Nat.add_zero, List.set_cons_zero, List.set_cons_succ] at h
      refine WL.nil ?_
      refine W.seq ?_
      refine W.region ?_
      refine WL.val run_assign rfl rfl ?_
      refine WL.nil ?_
      refine W.ret ?_
      refine bodyQ.r1 (v := .int .i64 _) Try.results67 rfl ?_
      -- path TF
      rw [callD_more c2 (by omega)]
      have hok2 := (hok.call0 (d.armed - 1)).1
      have h := closeQ (d := { d with armed := d.armed - 1, calls := d.calls + 1 }) (mb := mb) (ck := ck) (rows := rows) (pool := pool) hok2 hm h
      exact ⟨rfl, closeP h⟩
  · skip
    refine W.skip ?_
    refine W.seq ?_
    skip
    refine W.region ?_
    refine WL.val run_move rfl rfl ?_
    refine WL.val (run_nilCheck rfl) rfl rfl ?_
    refine WL.val (run_fieldAddr 6 Try.underlying106 rfl Try.sizeOf3 rfl rfl) rfl rfl ?_
    refine WL.val (run_load1 Try.isAgg3 rfl (h.cellB rfl)) rfl rfl ?_
    refine WL.val (run_add rfl rfl (by omega) (by omega)) rfl rfl ?_
    refine WL.val (run_nilCheck rfl) rfl rfl ?_
    refine WL.val (run_fieldAddr 6 Try.underlying106 rfl Try.sizeOf3 rfl rfl) rfl rfl ?_
    refine WL.eff (eff_store (v := .int .i64 _) h Try.sizeOf3 rfl rfl rfl rfl rfl) rfl rfl ?_
    rintro _ w h
    try simp only [Nat.zero_add, Nat.add_zero, List.set_cons_zero, List.set_cons_succ] at h
    refine WL.nil ?_
    refine W.seq ?_
    refine W.region ?_
    refine WL.val run_assign rfl rfl ?_
    refine WL.nil ?_
    refine W.ret ?_
    refine bodyQ.r1 (v := .int .i64 _) Try.results67 rfl ?_
    -- path F
    rw [callD_none c2]
    have hok2 := (hok.call0 d.armed).1
    have h := closeQ (d := { d with calls := d.calls + 1 }) (mb := mb) (ck := ck) (rows := rows) (pool := pool) hok2 hm h
    exact ⟨rfl, closeP h⟩

theorem arm_ok {b : Nat} {d : Dk} {n : Int} {picks : List Int} {ap : Option Addr} {cp : Nat} (hpl : picks.length ≤ 1000000000000) (h : On W0 (DiskP 106 110 b d :: L) w) (C : Gives L (Cells 1 (.slice ap picks.length cp) picks.length (intsV picks))) : Calls Try.prog 52 #[.pointer (some ⟨b, 0, none⟩), .int .i64 n, .slice ap picks.length cp] w (Ret fun v w' => On W0 (DiskP 106 110 b (armD d n picks) :: L) w') := by
  refine enter Try.func52 rfl Try.ntmps52 rfl ?_
  have ob_ := openP h
  obtain ⟨pa, pc, h⟩ := ob_
  have ob_ := openQ h
  obtain ⟨mb, ck, rows, pool, hok, hm, h⟩ := ob_
  refine W.seq ?_
  refine W.region ?_
  refine WL.val run_move rfl rfl ?_
  refine WL.val (run_nilCheck rfl) rfl rfl ?_
  refine WL.val (run_fieldAddr 4 Try.underlying106 rfl Try.sizeOf3 rfl rfl) rfl rfl ?_
  refine WL.eff (eff_store (v := .int .i64 _) h Try.sizeOf3 rfl rfl rfl rfl rfl) rfl rfl ?_
  rintro _ w h
  try simp only [Nat.zero_add, Nat.add_zero, List.set_cons_zero, List.set_cons_succ] at h
  refine WL.nil ?_
  refine W.seq ?_
  refine W.region ?_
  refine WL.val run_move rfl rfl ?_
  refine WL.val (run_gtr rfl rfl) rfl rfl ?_
  refine WL.nil ?_
  have hok2 : ∀ a p, Dk.ok { d with armed := a, picks := p } := fun a p => hok.flags d.off d.dead a p
  refine W.condIf rfl (fun c2 => ?_) (fun c2 => ?_)
  · skip
    refine W.region ?_
    refine WL.val run_move rfl rfl ?_
    refine WL.val run_move rfl rfl ?_
    refine WL.val run_move rfl rfl ?_
    refine WL.val run_move rfl rfl ?_
    refine WL.eff (eff_call Try.call94 (clone_ints h (Gives.to C) hpl)) rfl rfl ?_
    rintro _ w ⟨a15, c15, rfl, h⟩
    refine WL.val (run_nilCheck rfl) rfl rfl ?_
    refine WL.val (run_fieldAddr 4 Try.underlying106 rfl Try.sizeOf3 rfl rfl) rfl rfl ?_
    refine WL.eff (eff_store (v := .int .i64 _) h Try.sizeOf3 rfl rfl rfl rfl rfl) rfl rfl ?_
    rintro _ w h
    try simp only [Nat.zero_add, Nat.add_zero, List.set_cons_zero, List.set_cons_succ] at h
    refine WL.val (run_nilCheck rfl) rfl rfl ?_
    refine WL.val (run_fieldAddr 5 Try.underlying106 rfl Try.sizeOf24 rfl rfl) rfl rfl ?_
    refine WL.eff (eff_store (v := .slice _ _ _) h Try.sizeOf24 rfl rfl rfl rfl rfl) rfl rfl ?_
    rintro _ w h
    try simp only [Nat.zero_add, Nat.add_zero, List.set_cons_zero, List.set_cons_succ] at h
    refine WL.nil ?_
    refine bodyQ.fall ?_
    refine bodyQ.r0 Try.results52 ?_
    -- path T
    have e : armD d n picks = { d with armed := n, picks := picks } := by unfold armD; rw [if_pos c2]
    rw [e]
    have h := closeQ (T := 106) (TS := 110) (b := b) (pa := a15) (pn := picks.length) (pc := c15) (d := { d with armed := n, picks := picks }) (mb := mb) (ck := ck) (rows := rows) (pool := pool) (L := Own 1 (.slice a15 picks.length c15) picks.length (intsV picks) :: L) (hok2 n picks) hm h.to
    exact closeP (d := { d with armed := n, picks := picks }) h
  · skip
    refine W.skip ?_
    refine bodyQ.fall ?_
    refine bodyQ.r0 Try.results52 ?_
    -- path F
    have e : armD d n picks = { d with armed := 0 } := by unfold armD; rw [if_neg c2]
    rw [e]
    have h := closeQ (d := { d with armed := 0 }) (mb := mb) (ck := ck) (rows := rows) (pool := pool) (hok2 0 d.picks) hm h
    exact closeP (d := { d with armed := 0 }) h

theorem crashP {b : Nat} {d : Dk} {picks : List Int} {ap : Option Addr} {cp : Nat} (hcl : d.calls ≤ 1000000000000000000) (h : On W0 (DiskP 106 110 b d :: L) w) (C : Gives L (Cells 1 (.slice ap picks.length cp) picks.length (intsV picks))) : Calls Try.prog 19 #[.pointer (some ⟨b, 0, none⟩), .slice ap picks.length cp] w (Ret fun v w' => On W0 (DiskP 106 110 b (crashD d picks) :: L) w') := by
  obtain ⟨pa, pc, h⟩ := openP h
  refine (crash_ok hcl h (Gives.cons (Cells_mono _ _ _ _) C)).mono fun e w' he => ?_
  obtain ⟨v, he, h⟩ := he
  exact ⟨v, he, closePe (crashD_picks _ _) h⟩

theorem write_ok {b : Nat} {d : Dk} {k : Int} {ax : Option Addr} {cx : Nat} {bs : List UInt8} (hlow : d.low) (h : On W0 (DiskP 106 110 b d :: L) w) (C : Gives L (Bytes (.slice ax bs.length cx) bs)) : Calls Try.prog 17 #[.pointer (some ⟨b, 0, none⟩), .int .i64 k, .slice ax bs.length cx] w (Ret fun v w' => v = .int .i64 (writeD d k bs).1 ∧ On W0 (DiskP 106 110 b (writeD d k bs).2 :: L) w') := by
  refine enter Try.func17 rfl Try.ntmps17 rfl ?_
  have hok0 := diskOk h
  refine W.seq ?_
  refine W.region ?_
  refine WL.val run_assign rfl rfl ?_
  refine WL.nil ?_
  refine W.seq ?_
  refine W.seq ?_
  refine W.region ?_
  refine WL.val run_move rfl rfl ?_
  refine WL.eff (eff_call Try.call65 (stateP h)) rfl rfl ?_
  rintro _ w ⟨rfl, h⟩
  refine WL.val run_assign rfl rfl ?_
  refine WL.nil ?_
  refine W.seq ?_
  refine W.region ?_
  refine WL.val run_move rfl rfl ?_
  refine WL.val (run_neq rfl rfl) rfl rfl ?_
  refine WL.nil ?_
  refine W.condIf rfl (fun c3 => ?_) (fun c3 => ?_)
  · skip
    refine W.seq ?_
    refine W.region ?_
    refine WL.val run_move rfl rfl ?_
    refine WL.val run_assign rfl rfl ?_
    refine WL.nil ?_
    refine W.ret ?_
    refine bodyQ.r1 (v := .int .i64 _) Try.results17 rfl ?_
    -- path T
    have e := writeD_st (k := k) (bs := bs) (rfl : stE d = stE d) c3
    exact ⟨by rw [e], by rw [e]; exact h⟩
  · skip
    refine W.skip ?_
    refine W.seq ?_
    refine W.seq ?_
    have hst : stE d = 0 := Decidable.not_not.1 c3
    refine W.region ?_
    refine WL.val run_move rfl rfl ?_
    refine WL.val run_move rfl rfl ?_
    refine WL.eff (eff_call Try.call66 (dinP h)) rfl rfl ?_
    rintro _ w ⟨rfl, h⟩
    refine WL.dec (run_notDec rfl) rfl rfl (fun c17 => ?_) (fun c17 => ?_)
    · skip
      refine WL.val run_move rfl rfl ?_
      refine WL.skip rfl rfl ?_
      refine WL.skip rfl rfl ?_
      refine WL.skip rfl rfl ?_
      refine WL.val (run_pickT rfl) rfl rfl ?_
      refine WL.nil ?_
      refine W.condT rfl ?_
      refine W.seq ?_
      refine W.region ?_
      refine WL.val run_assign rfl rfl ?_
      refine WL.nil ?_
      refine W.ret ?_
      refine bodyQ.r1 (v := .int .i64 _) Try.results17 rfl ?_
      -- path FT
      have e := writeD_arg (bs := bs) hst (fun hh => c17 ⟨hh.1, hh.2.1⟩)
      exact ⟨by rw [e], by rw [e]; exact h⟩
    · skip
      refine WL.val run_move rfl rfl ?_
      refine WL.val run_move rfl rfl ?_
      refine WL.val (run_lenSlice Try.underlying22 rfl) rfl rfl ?_
      refine WL.val (run_gtr rfl rfl) rfl rfl ?_
      refine WL.val (run_pickF rfl) rfl rfl ?_
      refine WL.nil ?_
      refine W.condIf rfl (fun c8 => ?_) (fun c8 => ?_)
      · skip
        refine W.seq ?_
        refine W.region ?_
        refine WL.val run_assign rfl rfl ?_
        refine WL.nil ?_
        refine W.ret ?_
        refine bodyQ.r1 (v := .int .i64 _) Try.results17 rfl ?_
        -- path FFT
        have e := writeD_arg (k := k) (bs := bs) hst (fun hh => by omega)
        exact ⟨by rw [e], by rw [e]; exact h⟩
      · skip
        refine W.skip ?_
        refine W.seq ?_
        refine W.seq ?_
        have hkk := Decidable.not_not.1 c17
        have harg : 0 ≤ k ∧ k < d.n ∧ bs.length ≤ 512 := ⟨hkk.1, hkk.2, by omega⟩
        refine W.region ?_
        refine WL.val run_move rfl rfl ?_
        refine WL.eff (eff_call Try.call67 (call_ok hlow h)) rfl rfl ?_
        rintro _ w ⟨rfl, h⟩
        refine WL.val run_assign rfl rfl ?_
        refine WL.nil ?_
        refine W.seq ?_
        refine W.region ?_
        refine WL.val run_move rfl rfl ?_
        refine WL.val (run_neq rfl rfl) rfl rfl ?_
        refine WL.nil ?_
        refine W.condIf rfl (fun c14 => ?_) (fun c14 => ?_)
        · skip
          refine W.seq ?_
          refine W.region ?_
          refine WL.val run_move rfl rfl ?_
          refine WL.val run_assign rfl rfl ?_
          refine WL.nil ?_
          refine W.ret ?_
          refine bodyQ.r1 (v := .int .i64 _) Try.results17 rfl ?_
          -- path FFFT
          have e := writeD_call hst harg c14
          exact ⟨by rw [e], by rw [e]; exact h⟩
        · skip
          refine W.skip ?_
          refine W.seq ?_
          refine W.seq ?_
          have hc0 : (callD d).1 = 0 := Decidable.not_not.1 c14
          have ob_ := hok0.call1 hc0
          obtain ⟨hok1, hcl1, hn1⟩ := ob_
          have hwr := writeD_ok hst harg hc0
          have ob_ : ∃ d2, d2 = (callD d).2 := ⟨_, rfl⟩
          obtain ⟨d2, hd2⟩ := ob_
          rw [← hd2] at h hok1 hcl1 hn1 hwr
          have hokw : Dk.ok { d2 with m := addW d2.m k bs } := hok1.add (by omega) hcl1 bs
          have hclow : d2.calls ≤ 1000000000001 := by
            have hcs := callD_cases (d := d)
            have hl1 := hlow.1
            rcases hcs with ⟨_, a, e, _⟩ | ⟨_, e⟩
            · rw [hd2, e]; show d.calls + 1 ≤ _; omega
            · rw [e] at hc0; cases hc0
          have ob_ := openP h
          obtain ⟨pa, pc, h⟩ := ob_
          have ob_ := openQ h
          obtain ⟨mb, ck, rows, pool, hok, hm, h⟩ := ob_
          have ob_ := On.mapC h.p1
          obtain ⟨hfit, hmb⟩ := ob_
          have hnd := fitM_key hfit
          refine W.region ?_
          refine WL.val run_move rfl rfl ?_
          refine WL.val (run_nilCheck rfl) rfl rfl ?_
          refine WL.val (run_fieldAddr 1 Try.underlying106 rfl Try.sizeOf104 rfl rfl) rfl rfl ?_
          refine WL.val (run_load1 Try.isAgg104 rfl (h.cellB rfl)) rfl rfl ?_
          refine WL.val run_move rfl rfl ?_
          have hcs := rows_cases rows k
          rcases hcs with ⟨hl0, hno⟩ | ⟨i, r, hi, hk, hl0⟩ <;> (have hl := congrArg (fun o : Option Value => o.getD (.pointer none)) hl0) <;> refine WL.val (run_lookupV hmb Try.underlying104 Try.underlying3 Try.zeroValue108 rfl rfl hl) rfl rfl ?_
          · skip
            refine WL.val (run_eqlPtrNil Try.underlying108 rfl rfl) rfl rfl ?_
            refine WL.nil ?_
            refine W.condT rfl ?_
            refine W.region ?_
            refine WL.val run_move rfl rfl ?_
            refine WL.val (run_nilCheck rfl) rfl rfl ?_
            refine WL.val (run_fieldAddr 1 Try.underlying106 rfl Try.sizeOf104 rfl rfl) rfl rfl ?_
            refine WL.val (run_load1 Try.isAgg104 rfl (h.cellB rfl)) rfl rfl ?_
            refine WL.val run_move rfl rfl ?_
            refine WL.val (run_buildS (pl := [(0, 1), (1, 1)]) (out := [.slice _ _ _, .slice _ _ _]) Try.underlying110 Try.zeroValue110 (fun w => by kernel_rfl) rfl (trivial) rfl) rfl rfl ?_
            refine WL.eff (eff_box (v := .agg _) (l := [.slice _ _ _, .slice _ _ _]) h rfl rfl) rfl rfl ?_
            rintro _ w ⟨b41, rfl, h⟩
            refine WL.eff (eff_mapUpdate (v := .pointer (some ⟨b41, 0, none⟩)) (h.fetch (MapC mb .i64 (rows.map Rw.kv) ck)) Try.underlying104 Try.underlying3 rfl rfl rfl) rfl rfl ?_
            rintro _ w h
            have ob_ := put_rows_new (p := b41) (ck := ck) hno
            obtain ⟨hp1, hp2⟩ := ob_
            rw [hp1, hp2] at h
            refine WL.nil ?_
            refine W.seq ?_
            have hsec : On W0 (SecA 110 pool (⟨k, b41, ck, ⟨[], []⟩⟩ : Rw) :: Big (SecA 110 pool) rows :: blk b [.int .i64 d2.n, .map (some mb), .bool d2.off, .bool d2.dead, .int .i64 d2.armed, .slice pa d2.picks.length pc, .int .i64 d2.calls] 106 :: MapC mb .i64 ((rows ++ [(⟨k, b41, ck, ⟨[], []⟩⟩ : Rw)]).map Rw.kv) (ck + 1) :: Pool pool :: Own 1 (.slice pa d2.picks.length pc) d2.picks.length (intsV d2.picks) :: L) w := by
              refine closeS (vk := .slice none 0 0) (a := none) (c := 0) (vs := []) (.inr ⟨rfl, rfl⟩) rfl waitsP_nil ?_
              have h2 := h.ownEmpty 1 none
              exact h2.to
            have h := Big.push hsec
            have ob_ : ∃ (rows2 : List Rw) (ck2 i : Nat) (r : Rw), rows2[i]? = some r ∧ r.k = k ∧ lookM (rows2.map Rw.kv) k = some (.pointer (some ⟨r.p, 0, none⟩)) ∧ addW d2.m k bs = (rows2.set i { r with s := ⟨r.s.kept, r.s.wait ++ [bs]⟩ }).map Rw.ks ∧ (rows2.map (·.k)).Nodup ∧ (r.s.wait.length : Int) ≤ d2.calls ∧
                On W0 (Big (SecA 110 pool) rows2 :: blk b [.int .i64 d2.n, .map (some mb), .bool d2.off, .bool d2.dead, .int .i64 d2.armed, .slice pa d2.picks.length pc, .int .i64 d2.calls] 106 :: MapC mb .i64 (rows2.map Rw.kv) ck2 :: Pool pool :: Own 1 (.slice pa d2.picks.length pc) d2.picks.length (intsV d2.picks) :: L) w := by
              have hnd2 : ((rows ++ [(⟨k, b41, ck, ⟨[], []⟩⟩ : Rw)]).map (·.k)).Nodup := by
                rw [List.map_append]
                refine List.nodup_append.2 ⟨hnd, by simp, ?_⟩
                intro x hx y hy
                simp at hy
                subst hy
                rintro rfl
                obtain ⟨r, hr, he⟩ := List.mem_map.1 hx
                exact hno r hr he
              refine ⟨rows ++ [(⟨k, b41, ck, ⟨[], []⟩⟩ : Rw)], ck + 1, rows.length, (⟨k, b41, ck, ⟨[], []⟩⟩ : Rw), by simp, rfl, look_new hno, ?_, hnd2, by show ((0 : Nat) : Int) ≤ d2.calls; omega, h⟩
              have hd : d2.m = rows.map Rw.ks := hm
              rw [hd, addW_new hno, List.set_append_right _ _ (Nat.le_refl _)]
              simp [Rw.ks]
            obtain ⟨rows2, ck2, i, r, hi, hk, hl2, hadd, hset, hwl, h⟩ := ob_
            have h := Big.open hi h
            have ob_ := openS h
            obtain ⟨vk, a, c, vs, hvk, hv1, hws, h⟩ := ob_
            have hvl := hws.1
            have ob_ := Own.bounds h.p1
            obtain ⟨hbc, hbm⟩ := ob_
            have hl := congrArg (fun o : Option Value => o.getD (.pointer none)) hl2
            have hmx := maxLen_eq
            refine W.draw Try.follows h (fun w h => ?_)
            refine WT.pure 0 rfl (by kernel_rfl) (fun w' => run_move) rfl rfl ?_
            refine WT.pure 1 rfl (by kernel_rfl) (fun w' => (run_nilCheck rfl)) rfl rfl ?_
            refine WT.pure 2 rfl (by kernel_rfl) (fun w' => (run_fieldAddr 1 Try.underlying106 rfl Try.sizeOf104 rfl rfl)) rfl rfl ?_
            refine WT.load1 3 rfl (by kernel_rfl) Try.isAgg104 rfl (h.cellB rfl) rfl rfl ?_
            refine WT.pure 4 rfl (by kernel_rfl) (fun w' => run_move) rfl rfl ?_
            refine WT.take 5 (fun w => w.heap[mb]? = some (mapO .i64 (rows2.map Rw.kv) ck2)) rfl (by kernel_rfl) rfl rfl ((On.mapC (h.fetch (MapC mb .i64 (rows2.map Rw.kv) ck2))).2) (fun w' hC => run_lookupV hC Try.underlying104 Try.underlying3 Try.zeroValue108 rfl rfl hl) ?_
            refine WT.pure 6 rfl (by kernel_rfl) (fun w' => run_move) rfl rfl ?_
            refine WT.pure 7 rfl (by kernel_rfl) (fun w' => (run_nilCheck rfl)) rfl rfl ?_
            refine WT.pure 8 rfl (by kernel_rfl) (fun w' => (run_fieldAddr 1 Try.underlying106 rfl Try.sizeOf104 rfl rfl)) rfl rfl ?_
            refine WT.load1 9 rfl (by kernel_rfl) Try.isAgg104 rfl (h.cellB rfl) rfl rfl ?_
            refine WT.pure 10 rfl (by kernel_rfl) (fun w' => run_move) rfl rfl ?_
            refine WT.take 11 (fun w => w.heap[mb]? = some (mapO .i64 (rows2.map Rw.kv) ck2)) rfl (by kernel_rfl) rfl rfl ((On.mapC (h.fetch (MapC mb .i64 (rows2.map Rw.kv) ck2))).2) (fun w' hC => run_lookupV hC Try.underlying104 Try.underlying3 Try.zeroValue108 rfl rfl hl) ?_
            refine WT.pure 12 rfl (by kernel_rfl) (fun w' => (run_nilCheck rfl)) rfl rfl ?_
            refine WT.pure 13 rfl (by kernel_rfl) (fun w' => (run_fieldAddr 1 Try.underlying110 rfl Try.sizeOf23 rfl rfl)) rfl rfl ?_
            refine WT.load1 14 rfl (by kernel_rfl) Try.isAgg23 rfl (h.cellB rfl) rfl rfl ?_
            refine WT.pure 15 rfl (by kernel_rfl) (fun w' => run_move) rfl rfl ?_
            refine WT.eff 16 [true, true, true, true, true] rfl (by kernel_rfl) (by kernel_rfl) (eff_call Try.call68 (clone_bytes h (Gives.to C) (by omega))) rfl rfl ?_
            rintro _ w ⟨a58, c58, rfl, h⟩
            refine ⟨⟨h.cellB rfl, (On.mapC (h.fetch (MapC mb .i64 (rows2.map Rw.kv) ck2))).2, h.cellB rfl, (On.mapC (h.fetch (MapC mb .i64 (rows2.map Rw.kv) ck2))).2, h.cellB rfl, trivial⟩, ?_⟩
            refine WT.eff 17 [true, true, true, true, true] rfl (by kernel_rfl) (by kernel_rfl) (eff_mkSlice (zl := [.slice none 0 0]) (out := [.slice _ _ _]) h Try.underlying23 Try.sizeOf22 Try.zeroValue22 (by decide) (by kernel_rfl) rfl rfl (by simp) (⟨⟨_, _, rfl, rfl, by decide⟩, trivial⟩) rfl rfl (by simp [maxLen])) rfl rfl ?_
            rintro _ w ⟨b59, rfl, h⟩
            refine ⟨⟨h.cellB rfl, (On.mapC (h.fetch (MapC mb .i64 (rows2.map Rw.kv) ck2))).2, h.cellB rfl, (On.mapC (h.fetch (MapC mb .i64 (rows2.map Rw.kv) ck2))).2, h.cellB rfl, trivial⟩, ?_⟩
            refine WT.eff 18 [false, false, false, true, true] rfl (by kernel_rfl) (by kernel_rfl) (eff_app (c2 := 1) (bytes := 24) h rfl rfl (h.cellsO (v := .slice (some ⟨b59, 0, none⟩) 1 1)) Try.underlying23 rfl rfl rfl rfl rfl (by omega) (by omega) (by simp [Value.oneCell'])) rfl rfl ?_
            rintro _ w ⟨a60, c60, rfl, h⟩
            refine ⟨⟨(On.mapC (h.fetch (MapC mb .i64 (rows2.map Rw.kv) ck2))).2, h.cellB rfl, trivial⟩, ?_⟩
            refine WT.pure 19 rfl (by kernel_rfl) (fun w' => (run_nilCheck rfl)) rfl rfl ?_
            refine WT.pure 20 rfl (by kernel_rfl) (fun w' => (run_fieldAddr 1 Try.underlying110 rfl Try.sizeOf23 rfl rfl)) rfl rfl ?_
            refine WT.eff 21 [false, false] rfl (by kernel_rfl) (by kernel_rfl) (eff_store (v := .slice _ _ _) h Try.sizeOf23 rfl rfl rfl rfl rfl) rfl rfl ?_
            rintro _ w h
            try simp only [Nat.zero_add, Nat.add_zero, List.set_cons_zero, List.set_cons_succ] at h
            refine ⟨trivial, ?_⟩
            refine WT.done (by kernel_rfl) ?_
            refine W.seq ?_
            refine W.region ?_
            refine WL.val run_assign rfl rfl ?_
            refine WL.nil ?_
            refine W.ret ?_
            refine bodyQ.r1 (v := .int .i64 _) Try.results17 rfl ?_
            -- path FFFFT
            have h := ((h.fetch (Pool pool)).fetch (OwnB (.slice a58 bs.length c58) bs)).toPool
            have h := closeW (T := 106) (TS := 110) (b := b) (v := .slice a58 bs.length c58) (L := Own 1 (.slice pa d2.picks.length pc) d2.picks.length (intsV d2.picks) :: L) (d := d2) (pa := pa) (pn := d2.picks.length) (pc := pc) (mb := mb) (ck := ck2) (a := a60) (c := c60) hokw hi hadd hvk hv1 hws rfl h.to
            refine ⟨by rw [hwr], ?_⟩
            rw [hwr]
            exact closeP (d := { d2 with m := addW d2.m k bs }) h
          · skip
            refine WL.val (run_eqlPtrNil Try.underlying108 rfl rfl) rfl rfl ?_
            refine WL.nil ?_
            refine W.condF rfl ?_
            refine W.skip ?_
            refine W.seq ?_
            have ob_ : ∃ (rows2 : List Rw) (ck2 : Nat), rows2[i]? = some r ∧ lookM (rows2.map Rw.kv) k = some (.pointer (some ⟨r.p, 0, none⟩)) ∧ addW d2.m k bs = (rows2.set i { r with s := ⟨r.s.kept, r.s.wait ++ [bs]⟩ }).map Rw.ks ∧ (rows2.map (·.k)).Nodup ∧ (r.s.wait.length : Int) ≤ d2.calls ∧
                On W0 (Big (SecA 110 pool) rows2 :: blk b [.int .i64 d2.n, .map (some mb), .bool d2.off, .bool d2.dead, .int .i64 d2.armed, .slice pa d2.picks.length pc, .int .i64 d2.calls] 106 :: MapC mb .i64 (rows2.map Rw.kv) ck2 :: Pool pool :: Own 1 (.slice pa d2.picks.length pc) d2.picks.length (intsV d2.picks) :: L) w := by
              have hd : d2.m = rows.map Rw.ks := hm
              exact ⟨rows, ck, hi, hl0, by rw [hd]; exact addW_rows hnd hi hk, hnd, (hok.2.2.2 r.ks (by rw [hd]; exact List.mem_map.2 ⟨r, List.mem_of_getElem? hi, rfl⟩)).2.2, h.to⟩
            obtain ⟨rows2, ck2, hi, hl2, hadd, hset, hwl, h⟩ := ob_
            have h := Big.open hi h
            have ob_ := openS h
            obtain ⟨vk, a, c, vs, hvk, hv1, hws, h⟩ := ob_
            have hvl := hws.1
            have ob_ := Own.bounds h.p1
            obtain ⟨hbc, hbm⟩ := ob_
            have hl := congrArg (fun o : Option Value => o.getD (.pointer none)) hl2
            have hmx := maxLen_eq
            refine W.draw Try.follows h (fun w h => ?_)
            refine WT.pure 0 rfl (by kernel_rfl) (fun w' => run_move) rfl rfl ?_
            refine WT.pure 1 rfl (by kernel_rfl) (fun w' => (run_nilCheck rfl)) rfl rfl ?_
            refine WT.pure 2 rfl (by kernel_rfl) (fun w' => (run_fieldAddr 1 Try.underlying106 rfl Try.sizeOf104 rfl rfl)) rfl rfl ?_
            refine WT.load1 3 rfl (by kernel_rfl) Try.isAgg104 rfl (h.cellB rfl) rfl rfl ?_
            refine WT.pure 4 rfl (by kernel_rfl) (fun w' => run_move) rfl rfl ?_
            refine WT.take 5 (fun w => w.heap[mb]? = some (mapO .i64 (rows2.map Rw.kv) ck2)) rfl (by kernel_rfl) rfl rfl ((On.mapC (h.fetch (MapC mb .i64 (rows2.map Rw.kv) ck2))).2) (fun w' hC => run_lookupV hC Try.underlying104 Try.underlying3 Try.zeroValue108 rfl rfl hl) ?_
            refine WT.pure 6 rfl (by kernel_rfl) (fun w' => run_move) rfl rfl ?_
            refine WT.pure 7 rfl (by kernel_rfl) (fun w' => (run_nilCheck rfl)) rfl rfl ?_
            refine WT.pure 8 rfl (by kernel_rfl) (fun w' => (run_fieldAddr 1 Try.underlying106 rfl Try.sizeOf104 rfl rfl)) rfl rfl ?_
            refine WT.load1 9 rfl (by kernel_rfl) Try.isAgg104 rfl (h.cellB rfl) rfl rfl ?_
            refine WT.pure 10 rfl (by kernel_rfl) (fun w' => run_move) rfl rfl ?_
            refine WT.take 11 (fun w => w.heap[mb]? = some (mapO .i64 (rows2.map Rw.kv) ck2)) rfl (by kernel_rfl) rfl rfl ((On.mapC (h.fetch (MapC mb .i64 (rows2.map Rw.kv) ck2))).2) (fun w' hC => run_lookupV hC Try.underlying104 Try.underlying3 Try.zeroValue108 rfl rfl hl) ?_
            refine WT.pure 12 rfl (by kernel_rfl) (fun w' => (run_nilCheck rfl)) rfl rfl ?_
            refine WT.pure 13 rfl (by kernel_rfl) (fun w' => (run_fieldAddr 1 Try.underlying110 rfl Try.sizeOf23 rfl rfl)) rfl rfl ?_
            refine WT.load1 14 rfl (by kernel_rfl) Try.isAgg23 rfl (h.cellB rfl) rfl rfl ?_
            refine WT.pure 15 rfl (by kernel_rfl) (fun w' => run_move) rfl rfl ?_
            refine WT.eff 16 [true, true, true, true, true] rfl (by kernel_rfl) (by kernel_rfl) (eff_call Try.call68 (clone_bytes h (Gives.to C) (by omega))) rfl rfl ?_
            rintro _ w ⟨a58, c58, rfl, h⟩
            refine ⟨⟨h.cellB rfl, (On.mapC (h.fetch (MapC mb .i64 (rows2.map Rw.kv) ck2))).2, h.cellB rfl, (On.mapC (h.fetch (MapC mb .i64 (rows2.map Rw.kv) ck2))).2, h.cellB rfl, trivial⟩, ?_⟩
            refine WT.eff 17 [true, true, true, true, true] rfl (by kernel_rfl) (by kernel_rfl) (eff_mkSlice (zl := [.slice none 0 0]) (out := [.slice _ _ _]) h Try.underlying23 Try.sizeOf22 Try.zeroValue22 (by decide) (by kernel_rfl) rfl rfl (by simp) (⟨⟨_, _, rfl, rfl, by decide⟩, trivial⟩) rfl rfl (by simp [maxLen])) rfl rfl ?_
            rintro _ w ⟨b59, rfl, h⟩
            refine ⟨⟨h.cellB rfl, (On.mapC (h.fetch (MapC mb .i64 (rows2.map Rw.kv) ck2))).2, h.cellB rfl, (On.mapC (h.fetch (MapC mb .i64 (rows2.map Rw.kv) ck2))).2, h.cellB rfl, trivial⟩, ?_⟩
            refine WT.eff 18 [false, false, false, true, true] rfl (by kernel_rfl) (by kernel_rfl) (eff_app (c2 := 1) (bytes := 24) h rfl rfl (h.cellsO (v := .slice (some ⟨b59, 0, none⟩) 1 1)) Try.underlying23 rfl rfl rfl rfl rfl (by omega) (by omega) (by simp [Value.oneCell'])) rfl rfl ?_
            rintro _ w ⟨a60, c60, rfl, h⟩
            refine ⟨⟨(On.mapC (h.fetch (MapC mb .i64 (rows2.map Rw.kv) ck2))).2, h.cellB rfl, trivial⟩, ?_⟩
            refine WT.pure 19 rfl (by kernel_rfl) (fun w' => (run_nilCheck rfl)) rfl rfl ?_
            refine WT.pure 20 rfl (by kernel_rfl) (fun w' => (run_fieldAddr 1 Try.underlying110 rfl Try.sizeOf23 rfl rfl)) rfl rfl ?_
            refine WT.eff 21 [false, false] rfl (by kernel_rfl) (by kernel_rfl) (eff_store (v := .slice _ _ _) h Try.sizeOf23 rfl rfl rfl rfl rfl) rfl rfl ?_
            rintro _ w h
            try simp only [Nat.zero_add, Nat.add_zero, List.set_cons_zero, List.set_cons_succ] at h
            refine ⟨trivial, ?_⟩
            refine WT.done (by kernel_rfl) ?_
            refine W.seq ?_
            refine W.region ?_
            refine WL.val run_assign rfl rfl ?_
            refine WL.nil ?_
            refine W.ret ?_
            refine bodyQ.r1 (v := .int .i64 _) Try.results17 rfl ?_
            -- path FFFFF
            have h := ((h.fetch (Pool pool)).fetch (OwnB (.slice a58 bs.length c58) bs)).toPool
            have h := closeW (T := 106) (TS := 110) (b := b) (v := .slice a58 bs.length c58) (L := Own 1 (.slice pa d2.picks.length pc) d2.picks.length (intsV d2.picks) :: L) (d := d2) (pa := pa) (pn := d2.picks.length) (pc := pc) (mb := mb) (ck := ck2) (a := a60) (c := c60) hokw hi hadd hvk hv1 hws rfl h.to
            refine ⟨by rw [hwr], ?_⟩
            rw [hwr]
            exact closeP (d := { d2 with m := addW d2.m k bs }) h

end Go.Proofs.Ytlahgihjjabgmaa
