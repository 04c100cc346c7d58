/-
  The contracts of package net's functions and of what they call. Lines of walks printed by a program of the prover's.
-/
import Derived.Test.YtiejlelkmklgcaaRows
import Derived.Test.YtiejlelkmklgcaaNetModel
namespace Go.Proofs.Ytiejlelkmklgcaa
open Go Go.Sl Go.Sl.NetM
set_option linter.unusedVariables false
set_option linter.unusedSimpArgs false
set_option maxHeartbeats 4000000
theorem Try.follows : Try.prog.follows .mixedOrders = true := by kernel_rfl
variable {W0 w : World} {L F : List HProp}

theorem clone_bytes {ao : Option Addr} {cap : Nat} {bs : List UInt8} (h : On W0 L w) (C : Gives L (Bytes (.slice ao bs.length cap) bs)) (hn : bs.length ≤ 140737488355328) :
    Calls Try.prog 36 #[.slice ao bs.length cap] w (Ret fun v w' => ∃ a c, v = .slice a bs.length c ∧ On W0 (OwnB (.slice a bs.length c) bs :: L) w') := by
  refine enter Try.func36 rfl Try.ntmps36 rfl ?_
  obtain ⟨ao', cap', hv, hnc, hcm, hnone⟩ := (h.reads C).form
  simp only [Value.slice.injEq] at hv
  obtain ⟨rfl, _, rfl⟩ := hv
  have hl := maxLen_eq
  refine W.seq ?_
  refine W.region ?_
  refine WL.val run_assign rfl rfl ?_
  refine WL.nil ?_
  refine W.seq ?_
  refine W.seq ?_
  refine W.region ?_
  refine WL.val run_move rfl rfl ?_
  refine WL.val (run_eqlSliceNil Try.underlying30 rfl rfl) rfl rfl ?_
  refine WL.nil ?_
  refine W.condB rfl (fun c2 => ?_) (fun c2 => ?_)
  · skip
    refine W.seq ?_
    refine W.region ?_
    refine WL.val run_assign rfl rfl ?_
    refine WL.nil ?_
    refine W.ret ?_
    refine bodyQ.r1 (v := .slice _ _ _) Try.results36 rfl ?_
    -- path T
    have h0 : cap = 0 := hnone (by simpa using c2)
    have hb : bs = [] := List.eq_nil_of_length_eq_zero (by omega)
    subst hb
    exact ⟨none, 0, rfl, h.ownEmpty 1 none⟩
  · skip
    refine W.skip ?_
    refine W.seq ?_
    refine W.region ?_
    refine WL.eff (eff_mkSlice (zl := []) (out := []) h Try.underlying30 Try.sizeOf5 Try.zeroValue5 (by decide) (by simp) rfl rfl (by simp) (trivial) rfl rfl (by simp [maxLen])) rfl rfl ?_
    rintro _ w ⟨b5, rfl, h⟩
    refine WL.val run_move rfl rfl ?_
    refine WL.eff (eff_app0 (bytes := 1) h rfl rfl (h.readsTo C) Try.underlying30 rfl rfl rfl rfl rfl (by omega) (by omega) bytes_one) rfl rfl ?_
    rintro _ w ⟨a, c, rfl, h⟩
    refine WL.val run_assign rfl rfl ?_
    refine WL.nil ?_
    refine W.ret ?_
    refine bodyQ.r1 (v := .slice _ _ _) Try.results36 rfl ?_
    -- path F
    exact ⟨_, _, rfl, h⟩

theorem clip_bytes {a : Option Addr} {n c : Nat} {xs : List Value} (h : On W0 (Own 1 (.slice a n c) n xs :: L) w) :
    Calls Try.prog 35 #[.slice a n c] w (Ret fun v w' => v = .slice a n n ∧ On W0 (Own 1 (.slice a n n) n xs :: L) w') := by
  refine enter Try.func35 rfl Try.ntmps35 rfl ?_
  obtain ⟨a', c', hv, hnc, hcm, hnone⟩ := Own.form h
  simp only [Value.slice.injEq] at hv
  obtain ⟨rfl, _, rfl⟩ := hv
  refine W.seq ?_
  refine W.region ?_
  refine WL.val run_assign rfl rfl ?_
  refine WL.nil ?_
  refine W.seq ?_
  refine W.region ?_
  refine WL.val run_move rfl rfl ?_
  refine WL.val run_move rfl rfl ?_
  refine WL.val (run_lenSlice Try.underlying30 rfl) rfl rfl ?_
  refine WL.val run_move rfl rfl ?_
  refine WL.val (run_lenSlice Try.underlying30 rfl) rfl rfl ?_
  refine WL.val (run_cutHM Try.underlying30 Try.sizeOf5 rfl rfl rfl  (by omega) (by omega)) rfl rfl ?_
  refine WL.val run_assign rfl rfl ?_
  refine WL.nil ?_
  refine W.ret ?_
  refine bodyQ.r1 (v := .slice _ _ _) Try.results35 rfl ?_
  -- path 
  exact ⟨rfl, Own.clip h⟩

theorem apart_ok {p q : Int} {ao : Option Addr} {cap : Nat} {bs : List UInt8} (h : On W0 L w) (C : Gives L (Bytes (.slice ao bs.length cap) bs)) (hn : bs.length ≤ 140737488355328) :
    Calls Try.prog 26 #[.agg #[.int .i64 p, .int .i64 q, .slice ao bs.length cap]] w (Ret fun v w' => ∃ a c, v = .agg #[.int .i64 p, .int .i64 q, .slice a bs.length c] ∧ On W0 (OwnB (.slice a bs.length c) bs :: L) w') := by
  refine enter Try.func26 rfl Try.ntmps26 rfl ?_
  refine W.seq ?_
  refine W.region ?_
  refine WL.eff (eff_box (v := .agg _) (l := [.int .i64 _, .int .i64 _, .slice _ _ _]) h rfl rfl) rfl rfl ?_
  rintro _ w ⟨b1, rfl, h⟩
  refine WL.eff (eff_alloc h Try.zeroValue33 rfl) rfl rfl ?_
  rintro _ w ⟨b2, rfl, h⟩
  refine WL.nil ?_
  refine W.seq ?_
  refine W.region ?_
  refine WL.val (run_fieldAddr 2 Try.underlying33 rfl Try.sizeOf30 rfl rfl) rfl rfl ?_
  refine WL.val (run_load1 Try.isAgg30 rfl (h.cellB rfl)) rfl rfl ?_
  refine WL.eff (eff_call Try.call36 (clone_bytes h C.b.b hn)) rfl rfl ?_
  rintro _ w ⟨a, c, rfl, h⟩
  refine WL.eff (eff_call Try.call35 (clip_bytes h)) rfl rfl ?_
  rintro _ w ⟨rfl, h⟩
  refine WL.val (run_fieldAddr 2 Try.underlying33 rfl Try.sizeOf30 rfl rfl) rfl rfl ?_
  refine WL.eff (eff_store (v := .slice _ _ _) h Try.sizeOf30 rfl rfl rfl rfl rfl) rfl rfl ?_
  rintro _ w h
  try simp only [Nat.zero_add, Nat.add_zero, List.set_cons_zero, List.set_cons_succ] at h
  refine WL.nil ?_
  refine W.seq ?_
  refine W.region ?_
  refine WL.val (run_loadB (vs := [.int .i64 _, .int .i64 _, .slice _ _ _]) h Try.isAgg33 Try.sizeOf33 rfl rfl rfl) rfl rfl ?_
  refine WL.eff (eff_storeN (vs := [.int .i64 _, .int .i64 _, .slice _ _ _]) h Try.sizeOf33 rfl rfl rfl rfl rfl (fun k _ _ => free0 k)) rfl rfl ?_
  rintro _ w h
  try simp only [splice, List.take_zero, List.take_succ_cons, List.take_nil, List.drop_succ_cons, List.drop_zero, List.drop_nil, List.nil_append, List.cons_append, List.append_nil, List.length_cons, List.length_nil, Nat.zero_add, Nat.reduceAdd] at h
  refine WL.nil ?_
  refine W.ret ?_
  refine bodyQ.rcB (vs := [.int .i64 _, .int .i64 _, .slice _ _ _]) h Try.results26 Try.isAgg33 Try.sizeOf33 rfl rfl rfl ?_
  -- path 
  exact ⟨a, _, rfl, h.d2.d1⟩

theorem host_ok {b : Nat} {H : Int} {cs : List Value} {e : Nat} {fr : Nat × Nat} {i : Int} (h : On W0 L w) [HasBlk L b (.int .i64 H :: cs) e fr] :
    Calls Try.prog 25 #[.pointer (some ⟨b, 0, none⟩), .int .i64 i] w (Ret fun v w' => ∃ t : Bool, v = .bool t ∧ ((t = true ∧ 0 ≤ i ∧ i < H) ∨ (t = false ∧ ¬ (0 ≤ i ∧ i < H))) ∧ On W0 L w') := by
  refine enter Try.func25 rfl Try.ntmps25 rfl ?_
  refine W.seq ?_
  refine W.region ?_
  refine WL.val run_assign rfl rfl ?_
  refine WL.nil ?_
  refine W.seq ?_
  refine W.region ?_
  refine WL.val run_move rfl rfl ?_
  refine WL.dec (run_geq rfl rfl) rfl rfl (fun c6 => ?_) (fun c6 => ?_)
  · skip
    refine WL.val run_move rfl rfl ?_
    refine WL.val run_move rfl rfl ?_
    refine WL.val run_move rfl rfl ?_
    refine WL.val (run_nilCheck rfl) rfl rfl ?_
    refine WL.val (run_fieldAddr 0 Try.underlying58 rfl Try.sizeOf3 rfl rfl) rfl rfl ?_
    refine WL.val (run_load1 Try.isAgg3 rfl (h.cellB rfl)) rfl rfl ?_
    refine WL.val (run_lss rfl rfl) rfl rfl ?_
    refine WL.val (run_pickT rfl) rfl rfl ?_
    refine WL.val run_assign rfl rfl ?_
    refine WL.nil ?_
    refine W.ret ?_
    refine bodyQ.r1 (v := .bool _) Try.results25 rfl ?_
    -- path T
    exact ⟨_, rfl, by simp; omega, h⟩
  · skip
    refine WL.val run_move rfl rfl ?_
    refine WL.skip rfl rfl ?_
    refine WL.skip rfl rfl ?_
    refine WL.skip rfl rfl ?_
    refine WL.skip rfl rfl ?_
    refine WL.skip rfl rfl ?_
    refine WL.skip rfl rfl ?_
    refine WL.val (run_pickF rfl) rfl rfl ?_
    refine WL.val run_assign rfl rfl ?_
    refine WL.nil ?_
    refine W.ret ?_
    refine bodyQ.r1 (v := .bool _) Try.results25 rfl ?_
    -- path F
    exact ⟨_, rfl, by simp; omega, h⟩

theorem new_ok {H : Int} (h : On W0 F w) :
    Calls Try.prog 10 #[.int .i64 H] w (Ret fun v w' => (¬ (1 ≤ H ∧ H ≤ 64) ∧ v = .tuple #[.pointer none, .int .i64 1] ∧ On W0 F w') ∨
      ((1 ≤ H ∧ H ≤ 64) ∧ ∃ b, v = .tuple #[.pointer (some ⟨b, 0, none⟩), .int .i64 0] ∧ On W0 (NetP 58 b ⟨H, [], 0⟩ [] :: F) w')) := by
  refine enter Try.func10 rfl Try.ntmps10 rfl ?_
  refine W.seq ?_
  refine W.region ?_
  refine WL.val run_assign rfl rfl ?_
  refine WL.val run_assign rfl rfl ?_
  refine WL.nil ?_
  refine W.seq ?_
  refine W.seq ?_
  refine W.region ?_
  refine WL.val run_move rfl rfl ?_
  refine WL.dec (run_lss rfl rfl) rfl rfl (fun c5 => ?_) (fun c5 => ?_)
  · skip
    refine WL.val run_move rfl rfl ?_
    refine WL.skip rfl rfl ?_
    refine WL.skip rfl rfl ?_
    refine WL.val (run_pickT rfl) rfl rfl ?_
    refine WL.nil ?_
    refine W.condT rfl ?_
    refine W.seq ?_
    refine W.region ?_
    refine WL.val run_assign rfl rfl ?_
    refine WL.val run_assign rfl rfl ?_
    refine WL.nil ?_
    refine W.ret ?_
    refine bodyQ.r2 (v1 := .pointer _) (v2 := .int .i64 _) Try.results10 rfl rfl ?_
    -- path T
    exact .inl ⟨by omega, rfl, h⟩
  · skip
    refine WL.val run_move rfl rfl ?_
    refine WL.val run_move rfl rfl ?_
    refine WL.val (run_gtr rfl rfl) rfl rfl ?_
    refine WL.val (run_pickF rfl) rfl rfl ?_
    refine WL.nil ?_
    refine W.condIf rfl (fun c2 => ?_) (fun c2 => ?_)
    · skip
      refine W.seq ?_
      refine W.region ?_
      refine WL.val run_assign rfl rfl ?_
      refine WL.val run_assign rfl rfl ?_
      refine WL.nil ?_
      refine W.ret ?_
      refine bodyQ.r2 (v1 := .pointer _) (v2 := .int .i64 _) Try.results10 rfl rfl ?_
      -- path FT
      exact .inl ⟨by omega, rfl, h⟩
    · skip
      refine W.skip ?_
      refine W.seq ?_
      refine W.region ?_
      refine WL.val run_move rfl rfl ?_
      refine WL.val (run_buildS (pl := [(0, 1), (1, 1), (2, 1)]) (out := [.int .i64 _, .slice _ _ _, .int .i64 _]) Try.underlying58 Try.zeroValue58 (fun w => by kernel_rfl) rfl (⟨⟨_, _, rfl, rfl, by decide⟩, trivial⟩) rfl) rfl rfl ?_
      refine WL.eff (eff_box (v := .agg _) (l := [.int .i64 _, .slice _ _ _, .int .i64 _]) h rfl rfl) rfl rfl ?_
      rintro _ w ⟨b12, rfl, h⟩
      refine WL.val run_assign rfl rfl ?_
      refine WL.val run_assign rfl rfl ?_
      refine WL.nil ?_
      refine W.ret ?_
      refine bodyQ.r2 (v1 := .pointer _) (v2 := .int .i64 _) Try.results10 rfl rfl ?_
      -- path FF
      refine .inr ⟨by omega, _, rfl, ?_⟩
      exact closeN (qs := []) (a := none) (c := 0) rfl (by simp) (by simp) (by simp) ((h.ownEmpty 3 none).p1)

theorem is_ok {b n c : Nat} {a : Option Addr} {c0 c2 : Value} {e : Nat} {fr : Nat × Nat} {i : Int} (h : On W0 L w) [HasBlk L b [c0, .slice a n c, c2] e fr] :
    Calls Try.prog 27 #[.pointer (some ⟨b, 0, none⟩), .int .i64 i] w (Ret fun v w' => ∃ t : Bool, v = .bool t ∧ ((t = true ∧ 0 ≤ i ∧ i < n) ∨ (t = false ∧ ¬ (0 ≤ i ∧ i < n))) ∧ On W0 L w') := by
  refine enter Try.func27 rfl Try.ntmps27 rfl ?_
  refine W.seq ?_
  refine W.region ?_
  refine WL.val run_assign rfl rfl ?_
  refine WL.nil ?_
  refine W.seq ?_
  refine W.region ?_
  refine WL.val run_move rfl rfl ?_
  refine WL.dec (run_geq rfl rfl) rfl rfl (fun c6 => ?_) (fun c6 => ?_)
  · skip
    refine WL.val run_move rfl rfl ?_
    refine WL.val run_move rfl rfl ?_
    refine WL.val run_move rfl rfl ?_
    refine WL.val (run_nilCheck rfl) rfl rfl ?_
    refine WL.val (run_fieldAddr 1 Try.underlying58 rfl Try.sizeOf56 rfl rfl) rfl rfl ?_
    refine WL.val (run_load1 Try.isAgg56 rfl (h.cellB rfl)) rfl rfl ?_
    refine WL.val (run_lenSlice Try.underlying56 rfl) rfl rfl ?_
    refine WL.val (run_lss rfl rfl) rfl rfl ?_
    refine WL.val (run_pickT rfl) rfl rfl ?_
    refine WL.val run_assign rfl rfl ?_
    refine WL.nil ?_
    refine W.ret ?_
    refine bodyQ.r1 (v := .bool _) Try.results27 rfl ?_
    -- path T
    exact ⟨_, rfl, by simp; omega, h⟩
  · skip
    refine WL.val run_move rfl rfl ?_
    refine WL.skip rfl rfl ?_
    refine WL.skip rfl rfl ?_
    refine WL.skip rfl rfl ?_
    refine WL.skip rfl rfl ?_
    refine WL.skip rfl rfl ?_
    refine WL.skip rfl rfl ?_
    refine WL.skip rfl rfl ?_
    refine WL.val (run_pickF rfl) rfl rfl ?_
    refine WL.val run_assign rfl rfl ?_
    refine WL.nil ?_
    refine W.ret ?_
    refine bodyQ.r1 (v := .bool _) Try.results27 rfl ?_
    -- path F
    exact ⟨_, rfl, by simp; omega, h⟩

theorem waiting_ok {b n c : Nat} {a : Option Addr} {c0 c2 : Value} {e : Nat} {fr : Nat × Nat} (h : On W0 L w) [HasBlk L b [c0, .slice a n c, c2] e fr] :
    Calls Try.prog 12 #[.pointer (some ⟨b, 0, none⟩)] w (Ret fun v w' => v = .int .i64 n ∧ On W0 L w') := by
  refine enter Try.func12 rfl Try.ntmps12 rfl ?_
  refine W.seq ?_
  refine W.region ?_
  refine WL.val run_assign rfl rfl ?_
  refine WL.nil ?_
  refine W.seq ?_
  refine W.region ?_
  refine WL.val run_move rfl rfl ?_
  refine WL.val (run_nilCheck rfl) rfl rfl ?_
  refine WL.val (run_fieldAddr 1 Try.underlying58 rfl Try.sizeOf56 rfl rfl) rfl rfl ?_
  refine WL.val (run_load1 Try.isAgg56 rfl (h.cellB rfl)) rfl rfl ?_
  refine WL.val (run_lenSlice Try.underlying56 rfl) rfl rfl ?_
  refine WL.val run_assign rfl rfl ?_
  refine WL.nil ?_
  refine W.ret ?_
  refine bodyQ.r1 (v := .int .i64 _) Try.results12 rfl ?_
  -- path 
  exact ⟨rfl, h⟩

theorem sent_ok {b : Nat} {c0 c1 : Value} {c2 : Int} {e : Nat} {fr : Nat × Nat} (h : On W0 L w) [HasBlk L b [c0, c1, .int .i64 c2] e fr] :
    Calls Try.prog 13 #[.pointer (some ⟨b, 0, none⟩)] w (Ret fun v w' => v = .int .i64 c2 ∧ On W0 L w') := by
  refine enter Try.func13 rfl Try.ntmps13 rfl ?_
  refine W.seq ?_
  refine W.region ?_
  refine WL.val run_assign rfl rfl ?_
  refine WL.nil ?_
  refine W.seq ?_
  refine W.region ?_
  refine WL.val run_move rfl rfl ?_
  refine WL.val (run_nilCheck rfl) rfl rfl ?_
  refine WL.val (run_fieldAddr 2 Try.underlying58 rfl Try.sizeOf3 rfl rfl) rfl rfl ?_
  refine WL.val (run_load1 Try.isAgg3 rfl (h.cellB rfl)) rfl rfl ?_
  refine WL.val run_assign rfl rfl ?_
  refine WL.nil ?_
  refine W.ret ?_
  refine bodyQ.r1 (v := .int .i64 _) Try.results13 rfl ?_
  -- path 
  exact ⟨rfl, h⟩

theorem send_ok {b : Nat} {m : St} {pool : List (Value × List UInt8)} {f t : Int} {ax : Option Addr} {cx : Nat} {bs : List UInt8} (h : On W0 (NetP 58 b m pool :: Pool pool :: F) w) (C : Gives F (Bytes (.slice ax bs.length cx) bs)) (hs0 : 0 ≤ m.s) (hs1 : m.s ≤ 1000000000000000000) :
    Calls Try.prog 11 #[.pointer (some ⟨b, 0, none⟩), .int .i64 f, .int .i64 t, .slice ax bs.length cx] w (Ret fun v w' => v = .int .i64 (sendE m f t bs.length) ∧
      ∃ pool', (∀ p ∈ pool, p ∈ pool') ∧ On W0 (NetP 58 b (send m f t bs) pool' :: Pool pool' :: F) w') := by
  refine enter Try.func11 rfl Try.ntmps11 rfl ?_
  obtain ⟨qs, a, c, e1, e2, e3, e4, h⟩ := openN h
  have hlen : qs.length = m.l.length := by rw [← e1]; simp
  have hl := maxLen_eq
  refine W.seq ?_
  refine W.region ?_
  refine WL.val run_assign rfl rfl ?_
  refine WL.nil ?_
  refine W.seq ?_
  refine W.block ?_
  refine W.seq ?_
  refine W.region ?_
  refine WL.val run_move rfl rfl ?_
  refine WL.val run_move rfl rfl ?_
  refine WL.eff (eff_call Try.call25 (host_ok h)) rfl rfl ?_
  rintro _ w ⟨_, rfl, ⟨rfl, ht1⟩ | ⟨rfl, ht1⟩, h⟩
  · skip
    refine WL.val (run_not rfl) rfl rfl ?_
    refine WL.val run_move rfl rfl ?_
    refine WL.val run_move rfl rfl ?_
    refine WL.val run_move rfl rfl ?_
    refine WL.eff (eff_call Try.call25 (host_ok h)) rfl rfl ?_
    rintro _ w ⟨_, rfl, ⟨rfl, ht2⟩ | ⟨rfl, ht2⟩, h⟩
    · skip
      refine WL.val (run_not rfl) rfl rfl ?_
      refine WL.val (run_pickF rfl) rfl rfl ?_
      refine WL.val run_assign rfl rfl ?_
      refine WL.nil ?_
      refine W.condF rfl ?_
      refine W.seq ?_
      refine W.region ?_
      refine WL.val run_move rfl rfl ?_
      refine WL.val (run_lenSlice Try.underlying30 rfl) rfl rfl ?_
      refine WL.val (run_gtr rfl rfl) rfl rfl ?_
      refine WL.val run_assign rfl rfl ?_
      refine WL.nil ?_
      refine W.condIf rfl (fun c7 => ?_) (fun c7 => ?_)
      · skip
        refine W.seq ?_
        refine W.region ?_
        refine WL.val run_assign rfl rfl ?_
        refine WL.nil ?_
        refine W.ret ?_
        refine bodyQ.r1 (v := .int .i64 _) Try.results11 rfl ?_
        -- path TTT
        have e : sendE m f t bs.length = 5 := by unfold sendE; rw [if_neg (by omega), if_pos (by omega)]
        exact ⟨by rw [e], pool, fun _ h => h, by unfold send; rw [e]; exact closeN e1 e2 e3 e4 h⟩
      · skip
        refine W.seq ?_
        refine W.region ?_
        refine WL.val run_move rfl rfl ?_
        refine WL.val (run_nilCheck rfl) rfl rfl ?_
        refine WL.val (run_fieldAddr 1 Try.underlying58 rfl Try.sizeOf56 rfl rfl) rfl rfl ?_
        refine WL.val (run_load1 Try.isAgg56 rfl (h.cellB rfl)) rfl rfl ?_
        refine WL.val (run_lenSlice Try.underlying56 rfl) rfl rfl ?_
        refine WL.val (run_geq rfl rfl) rfl rfl ?_
        refine WL.val run_assign rfl rfl ?_
        refine WL.nil ?_
        refine W.condIf rfl (fun c11 => ?_) (fun c11 => ?_)
        · skip
          refine W.seq ?_
          refine W.region ?_
          refine WL.val run_assign rfl rfl ?_
          refine WL.nil ?_
          refine W.ret ?_
          refine bodyQ.r1 (v := .int .i64 _) Try.results11 rfl ?_
          -- path TTFT
          have e : sendE m f t bs.length = 7 := by unfold sendE; rw [if_neg (by omega), if_neg (by omega), if_pos (by omega)]
          exact ⟨by rw [e], pool, fun _ h => h, by unfold send; rw [e]; exact closeN e1 e2 e3 e4 h⟩
        · skip
          refine W.skip ?_
          refine W.seq ?_
          refine W.draw Try.follows h (fun w h => ?_)
          refine WT.pure 0 rfl (by kernel_rfl) (fun w' => run_move) rfl rfl ?_
          refine WT.pure 1 rfl (by kernel_rfl) (fun w' => run_move) rfl rfl ?_
          refine WT.pure 2 rfl (by kernel_rfl) (fun w' => (run_nilCheck rfl)) rfl rfl ?_
          refine WT.pure 3 rfl (by kernel_rfl) (fun w' => (run_fieldAddr 1 Try.underlying58 rfl Try.sizeOf56 rfl rfl)) rfl rfl ?_
          refine WT.load1 4 rfl (by kernel_rfl) Try.isAgg56 rfl (h.cellB rfl) rfl rfl ?_
          refine WT.pure 5 rfl (by kernel_rfl) (fun w' => run_move) rfl rfl ?_
          refine WT.pure 6 rfl (by kernel_rfl) (fun w' => run_move) rfl rfl ?_
          refine WT.pure 7 rfl (by kernel_rfl) (fun w' => run_move) rfl rfl ?_
          refine WT.pure 8 rfl (by kernel_rfl) (fun w' => (run_buildS (pl := [(0, 1), (1, 1), (2, 1)]) (out := [.int .i64 _, .int .i64 _, .slice _ _ _]) Try.underlying33 Try.zeroValue33 (fun w => by kernel_rfl) rfl (⟨⟨_, _, rfl, rfl, by decide⟩, ⟨⟨_, _, rfl, rfl, by decide⟩, ⟨⟨_, _, rfl, rfl, by decide⟩, trivial⟩⟩⟩) rfl)) rfl rfl ?_
          refine WT.eff 9 [true] rfl (by kernel_rfl) (by kernel_rfl) (eff_call Try.call26 (apart_ok h C.b.b.b (by omega))) rfl rfl ?_
          rintro _ w ⟨an, cn, rfl, h⟩
          refine ⟨⟨h.cellB rfl, trivial⟩, ?_⟩
          refine WT.eff 10 [true] rfl (by kernel_rfl) (by kernel_rfl) (eff_mkSlice (zl := [.int .i64 0, .int .i64 0, .slice none 0 0]) (out := [.int .i64 _, .int .i64 _, .slice _ _ _]) h Try.underlying56 Try.sizeOf33 Try.zeroValue33 (by decide) (by kernel_rfl) rfl rfl (by simp) (⟨⟨_, _, rfl, rfl, by decide⟩, trivial⟩) rfl rfl (by simp [maxLen])) rfl rfl ?_
          rintro _ w ⟨b41, rfl, h⟩
          refine ⟨⟨h.cellB rfl, trivial⟩, ?_⟩
          refine WT.eff 11 [false] rfl (by kernel_rfl) (by kernel_rfl) (eff_app (bytes := 40) h rfl rfl h.cellsO Try.underlying56 rfl rfl rfl rfl rfl (by omega) (by omega) (by simp [Value.oneCell'])) rfl rfl ?_
          rintro _ w ⟨a2, c2, rfl, h⟩
          refine ⟨trivial, ?_⟩
          refine WT.pure 12 rfl (by kernel_rfl) (fun w' => (run_nilCheck rfl)) rfl rfl ?_
          refine WT.pure 13 rfl (by kernel_rfl) (fun w' => (run_fieldAddr 1 Try.underlying58 rfl Try.sizeOf56 rfl rfl)) rfl rfl ?_
          refine WT.eff 14 [] rfl (by kernel_rfl) (by kernel_rfl) (eff_store (v := .slice _ _ _) h Try.sizeOf56 rfl rfl rfl rfl rfl) rfl rfl ?_
          rintro _ w h
          try simp only [Nat.zero_add, Nat.add_zero, List.set_cons_zero, List.set_cons_succ] at h
          refine ⟨trivial, ?_⟩
          refine WT.done (by kernel_rfl) ?_
          refine W.seq ?_
          refine W.region ?_
          refine WL.val run_move rfl rfl ?_
          refine WL.val (run_nilCheck rfl) rfl rfl ?_
          refine WL.val (run_fieldAddr 2 Try.underlying58 rfl Try.sizeOf3 rfl rfl) rfl rfl ?_
          refine WL.val (run_load1 Try.isAgg3 rfl (h.cellB rfl)) rfl rfl ?_
          refine WL.val (run_add rfl rfl (by omega) (by omega)) rfl rfl ?_
          refine WL.val (run_nilCheck rfl) rfl rfl ?_
          refine WL.val (run_fieldAddr 2 Try.underlying58 rfl Try.sizeOf3 rfl rfl) rfl rfl ?_
          refine WL.eff (eff_store (v := .int .i64 _) h Try.sizeOf3 rfl rfl rfl rfl rfl) rfl rfl ?_
          rintro _ w h
          try simp only [Nat.zero_add, Nat.add_zero, List.set_cons_zero, List.set_cons_succ] at h
          refine WL.nil ?_
          refine W.seq ?_
          refine W.region ?_
          refine WL.val run_assign rfl rfl ?_
          refine WL.nil ?_
          refine W.ret ?_
          refine bodyQ.r1 (v := .int .i64 _) Try.results11 rfl ?_
          -- path TTFF
          have e : sendE m f t bs.length = 0 := by unfold sendE; rw [if_neg (by omega), if_neg (by omega), if_neg (by omega)]
          refine ⟨by rw [e], (.slice an bs.length cn, bs) :: pool, fun _ h => List.mem_cons_of_mem _ h, ?_⟩
          have h := (On.toPool h.d1.p3.p2).p2.p2.p1
          unfold send
          rw [if_pos e]
          refine closeN (qs := qs ++ [⟨f, t, .slice an bs.length cn, bs⟩]) (a := a2) (c := c2) (by simp [e1, Q.pk]) ?_ ?_ ?_ (by simpa [Q.cells] using h)
          · intro q hq
            rcases List.mem_append.1 hq with hq | hq
            · exact List.mem_cons_of_mem _ (e2 q hq)
            · rw [List.mem_singleton] at hq; subst hq; exact List.mem_cons_self ..
          · intro q hq
            rcases List.mem_append.1 hq with hq | hq
            · exact e3 q hq
            · rw [List.mem_singleton] at hq; subst hq; rfl
          · intro q hq
            rcases List.mem_append.1 hq with hq | hq
            · exact e4 q hq
            · rw [List.mem_singleton] at hq; subst hq; show bs.length ≤ 8192; omega
    · skip
      refine WL.val (run_not rfl) rfl rfl ?_
      refine WL.val (run_pickF rfl) rfl rfl ?_
      refine WL.val run_assign rfl rfl ?_
      refine WL.nil ?_
      refine W.condT rfl ?_
      refine W.seq ?_
      refine W.region ?_
      refine WL.val run_assign rfl rfl ?_
      refine WL.nil ?_
      refine W.ret ?_
      refine bodyQ.r1 (v := .int .i64 _) Try.results11 rfl ?_
      -- path TF
      have e : sendE m f t bs.length = 1 := by unfold sendE; rw [if_pos]; omega
      exact ⟨by rw [e], pool, fun _ h => h, by unfold send; rw [e]; exact closeN e1 e2 e3 e4 h⟩
  · skip
    refine WL.val (run_not rfl) rfl rfl ?_
    refine WL.val run_move rfl rfl ?_
    refine WL.skip rfl rfl ?_
    refine WL.skip rfl rfl ?_
    refine WL.skip rfl rfl ?_
    refine WL.skip rfl rfl ?_
    refine WL.val (run_pickT rfl) rfl rfl ?_
    refine WL.val run_assign rfl rfl ?_
    refine WL.nil ?_
    refine W.condT rfl ?_
    refine W.seq ?_
    refine W.region ?_
    refine WL.val run_assign rfl rfl ?_
    refine WL.nil ?_
    refine W.ret ?_
    refine bodyQ.r1 (v := .int .i64 _) Try.results11 rfl ?_
    -- path F
    have e : sendE m f t bs.length = 1 := by unfold sendE; rw [if_pos]; omega
    exact ⟨by rw [e], pool, fun _ h => h, by unfold send; rw [e]; exact closeN e1 e2 e3 e4 h⟩

theorem packet_ok {b : Nat} {m : St} {pool : List (Value × List UInt8)} {i : Int} (h : On W0 (NetP 58 b m pool :: Pool pool :: F) w) :
    Calls Try.prog 19 #[.pointer (some ⟨b, 0, none⟩), .int .i64 i] w (Ret fun v w' => PkRes (at? m i) W0 (NetP 58 b m pool :: Pool pool :: F) v w') := by
  refine enter Try.func19 rfl Try.ntmps19 rfl ?_
  obtain ⟨qs, a, c, e1, e2, e3, e4, h⟩ := openN h
  have hlen : qs.length = m.l.length := by rw [← e1]; simp
  obtain ⟨hqc, hcm⟩ := Own.bounds h.p1
  have hl := maxLen_eq
  refine W.seq ?_
  refine W.region ?_
  refine WL.eff (eff_alloc h Try.zeroValue33 rfl) rfl rfl ?_
  rintro _ w ⟨b4, rfl, h⟩
  refine WL.val run_assign rfl rfl ?_
  refine WL.nil ?_
  refine W.seq ?_
  refine W.seq ?_
  refine W.region ?_
  refine WL.val run_move rfl rfl ?_
  refine WL.val run_move rfl rfl ?_
  refine WL.eff (eff_call Try.call27 (is_ok h)) rfl rfl ?_
  rintro _ w ⟨_, rfl, ⟨rfl, ht⟩ | ⟨rfl, ht⟩, h⟩
  · skip
    refine WL.val (run_not rfl) rfl rfl ?_
    refine WL.nil ?_
    refine W.condF rfl ?_
    refine W.skip ?_
    refine W.seq ?_
    obtain ⟨bq, oq, rfl⟩ := Own.addr h.p2 (by omega)
    obtain ⟨⟨pf, pt, pv, pbs⟩, hq⟩ : ∃ q, qs[i.toNat]? = some q := ⟨qs[i.toNat]'(by omega), by simp⟩
    have hm := List.mem_of_getElem? hq
    have hp := e2 _ hm
    obtain ⟨pa, pc, hpv, _, _, _⟩ := (h.tail.tail.tail.reads (Gives.pool hp)).form
    change pv = .slice pa pbs.length pc at hpv
    subst hpv
    have hb8 := e4 _ hm
    change pbs.length ≤ 8192 at hb8
    refine W.region ?_
    refine WL.val run_move rfl rfl ?_
    refine WL.val (run_nilCheck rfl) rfl rfl ?_
    refine WL.val (run_fieldAddr 1 Try.underlying58 rfl Try.sizeOf56 rfl rfl) rfl rfl ?_
    refine WL.val (run_load1 Try.isAgg56 rfl (h.cellB rfl)) rfl rfl ?_
    refine WL.val run_move rfl rfl ?_
    refine WL.val (run_indexAddr Try.underlying56 Try.sizeOf33 rfl rfl (by omega) (by omega)) rfl rfl ?_
    refine WL.val (run_loadN Try.isAgg33 Try.sizeOf33 rfl rfl ((h.p2.cells 0 rfl).elem (i := i.toNat) (vs := [.int .i64 pf, .int .i64 pt, .slice pa pbs.length pc]) (by omega) (drop_flatMap Q.cells 3 Q.cells_length qs _ _ hq))) rfl rfl ?_
    refine WL.eff (eff_call Try.call26 (apart_ok h (Gives.pool hp).b.b.b (by omega))) rfl rfl ?_
    rintro _ w ⟨ar, cr, rfl, h⟩
    refine WL.eff (eff_storeN (vs := [.int .i64 _, .int .i64 _, .slice _ _ _]) h Try.sizeOf33 rfl rfl rfl rfl rfl (fun k _ _ => free0 k)) rfl rfl ?_
    rintro _ w h
    try simp only [splice, List.take_zero, List.take_succ_cons, List.take_nil, List.drop_succ_cons, List.drop_zero, List.drop_nil, List.nil_append, List.cons_append, List.append_nil, List.length_cons, List.length_nil, Nat.zero_add, Nat.reduceAdd] at h
    refine WL.val run_assign rfl rfl ?_
    refine WL.nil ?_
    refine W.ret ?_
    refine bodyQ.rctB (vs := [.int .i64 _, .int .i64 _, .slice _ _ _]) (v2 := .bool _) h Try.results19 Try.isAgg33 Try.sizeOf33 rfl rfl rfl rfl ?_
    -- path T
    have e : at? m i = some ⟨pf, pt, pbs⟩ := by
      unfold at?
      rw [if_pos ht.1, ← e1, List.getElem?_map, hq]
      rfl
    exact PkRes.some e rfl (closeN e1 e2 e3 e4 h.d1.q2).p1
  · skip
    refine WL.val (run_not rfl) rfl rfl ?_
    refine WL.nil ?_
    refine W.condT rfl ?_
    refine W.seq ?_
    refine W.region ?_
    refine WL.val (run_buildS (pl := [(0, 1), (1, 1), (2, 1)]) (out := [.int .i64 _, .int .i64 _, .slice _ _ _]) Try.underlying33 Try.zeroValue33 (fun w => by kernel_rfl) rfl (trivial) rfl) rfl rfl ?_
    refine WL.eff (eff_storeN (vs := [.int .i64 _, .int .i64 _, .slice _ _ _]) h Try.sizeOf33 rfl rfl rfl rfl rfl (fun k _ _ => free0 k)) rfl rfl ?_
    rintro _ w h
    try simp only [splice, List.take_zero, List.take_succ_cons, List.take_nil, List.drop_succ_cons, List.drop_zero, List.drop_nil, List.nil_append, List.cons_append, List.append_nil, List.length_cons, List.length_nil, Nat.zero_add, Nat.reduceAdd] at h
    refine WL.val run_assign rfl rfl ?_
    refine WL.nil ?_
    refine W.ret ?_
    refine bodyQ.rctB (vs := [.int .i64 _, .int .i64 _, .slice _ _ _]) (v2 := .bool _) h Try.results19 Try.isAgg33 Try.sizeOf33 rfl rfl rfl rfl ?_
    -- path F
    exact PkRes.none (at?_none (by omega)) rfl (closeN e1 e2 e3 e4 h.tail)

theorem delete_ok {a : Option Addr} {n c k : Nat} {xs : List Value} (h : On W0 (Own 3 (.slice a n c) n xs :: L) w) (hk : k < n) (hx1 : ∀ u ∈ xs, u.oneCell' = true) :
    Calls Try.prog 33 #[.slice a n c, .int .i64 (k : Int), .int .i64 ((k + 1 : Nat) : Int)] w (Ret fun v w' => ∃ n', n' + 1 = n ∧ v = .slice a n' c ∧
      On W0 (Own 3 (.slice a n' c) n' (xs.take (k * 3) ++ xs.drop ((k + 1) * 3)) :: L) w') := by
  refine enter Try.func33 rfl Try.ntmps33 rfl ?_
  obtain ⟨a', c', hv, hnc, hcm, hnone⟩ := Own.form h
  simp only [Value.slice.injEq] at hv
  obtain ⟨rfl, _, rfl⟩ := hv
  have hxl := (Own.openOn h).1
  have hl := maxLen_eq
  refine W.seq ?_
  refine W.region ?_
  refine WL.val run_assign rfl rfl ?_
  refine WL.nil ?_
  refine W.seq ?_
  refine W.region ?_
  refine WL.val run_move rfl rfl ?_
  refine WL.val run_move rfl rfl ?_
  refine WL.val run_move rfl rfl ?_
  refine WL.val run_move rfl rfl ?_
  refine WL.val (run_lenSlice Try.underlying56 rfl) rfl rfl ?_
  refine WL.val (run_cutLHM Try.underlying56 Try.sizeOf33 rfl rfl rfl rfl  (by omega) (by omega) (by omega)) rfl rfl ?_
  refine WL.nil ?_
  refine W.seq ?_
  refine W.seq ?_
  refine W.region ?_
  refine WL.val run_move rfl rfl ?_
  refine WL.val run_move rfl rfl ?_
  refine WL.val (run_eql rfl rfl) rfl rfl ?_
  refine WL.nil ?_
  refine W.condIf rfl (fun c3 => ?_) (fun c3 => ?_)
  · skip
    exfalso; omega
  · skip
    refine W.skip ?_
    refine W.seq ?_
    refine W.region ?_
    refine WL.val run_move rfl rfl ?_
    refine WL.val (run_lenSlice Try.underlying56 rfl) rfl rfl ?_
    refine WL.val run_assign rfl rfl ?_
    refine WL.nil ?_
    refine W.seq ?_
    refine W.draw Try.follows h (fun w h => ?_)
    refine WT.pure 0 rfl (by kernel_rfl) (fun w' => run_move) rfl rfl ?_
    refine WT.pure 1 rfl (by kernel_rfl) (fun w' => run_move) rfl rfl ?_
    refine WT.pure 2 rfl (by kernel_rfl) (fun w' => (run_cutH Try.underlying56 Try.sizeOf33 rfl rfl  (by omega))) rfl rfl ?_
    refine WT.pure 3 rfl (by kernel_rfl) (fun w' => run_move) rfl rfl ?_
    refine WT.pure 4 rfl (by kernel_rfl) (fun w' => run_move) rfl rfl ?_
    refine WT.pure 5 rfl (by kernel_rfl) (fun w' => (run_cutL Try.underlying56 Try.sizeOf33 rfl rfl  (by omega))) rfl rfl ?_
    refine WT.eff 6 [] rfl (by kernel_rfl) (by kernel_rfl) (eff_appendFits (n := k) (m := n - (k + 1)) (cap := c) (Own.front h (by omega)) ((h.cells 0 rfl).cut (l := k + 1) (h := n) (m := c) (by omega) (by omega) (by omega) (by omega)) rfl rfl Try.underlying56 Try.sizeOf33 (by omega) (fun u hu => hx1 u (List.mem_of_mem_drop (List.mem_of_mem_take hu)))) rfl rfl ?_
    rintro _ w ⟨rfl, h⟩
    rw [List.take_of_length_le (l := xs.drop ((k + 1) * 3)) (by rw [List.length_drop, hxl, ← Nat.sub_mul]; exact Nat.le_refl _)] at h
    obtain ⟨n', hn'⟩ : ∃ n', n' = k + (n - (k + 1)) := ⟨_, rfl⟩
    rw [← hn'] at h
    refine ⟨trivial, ?_⟩
    refine WT.pure 7 rfl (by kernel_rfl) (fun w' => run_assign) rfl rfl ?_
    refine WT.done (by kernel_rfl) ?_
    refine W.seq ?_
    refine W.region ?_
    refine WL.val run_move rfl rfl ?_
    refine WL.val run_move rfl rfl ?_
    refine WL.val (run_lenSlice Try.underlying56 rfl) rfl rfl ?_
    refine WL.val run_move rfl rfl ?_
    refine WL.val (run_cutLH Try.underlying56 Try.sizeOf33 rfl rfl rfl  (by omega) (by omega)) rfl rfl ?_
    refine WL.eff (eff_clearBehind (n := k + (n - (k + 1))) (m := n) (by rw [← hn']; exact h) (by omega) (by omega) rfl Try.underlying56 Try.zeroValue33 rfl (by simp [Value.cells, Value.oneCell'])) rfl rfl ?_
    rintro _ w h
    refine WL.nil ?_
    refine W.seq ?_
    refine W.region ?_
    refine WL.val run_move rfl rfl ?_
    refine WL.val run_assign rfl rfl ?_
    refine WL.nil ?_
    refine W.ret ?_
    refine bodyQ.r1 (v := .slice _ _ _) Try.results33 rfl ?_
    -- path F
    exact ⟨_, by omega, rfl, h⟩

theorem deliver_ok {b : Nat} {m : St} {pool : List (Value × List UInt8)} {i : Int} (h : On W0 (NetP 58 b m pool :: Pool pool :: F) w) :
    Calls Try.prog 22 #[.pointer (some ⟨b, 0, none⟩), .int .i64 i] w (Ret fun v w' => PkRes (at? m i) W0 (NetP 58 b (out m i) pool :: Pool pool :: F) v w') := by
  refine enter Try.func22 rfl Try.ntmps22 rfl ?_
  have hl := maxLen_eq
  refine W.seq ?_
  refine W.region ?_
  refine WL.eff (eff_alloc h Try.zeroValue33 rfl) rfl rfl ?_
  rintro _ w ⟨b4, rfl, h⟩
  refine WL.val run_assign rfl rfl ?_
  refine WL.nil ?_
  refine W.seq ?_
  refine W.region ?_
  refine WL.val run_move rfl rfl ?_
  refine WL.val run_move rfl rfl ?_
  refine WL.eff (eff_call Try.call19 (packet_ok (F := _ :: F) h.q2)) rfl rfl ?_
  rintro _ w hR
  rcases hR.elim with ⟨p, a, c, hat, rfl, h⟩ | ⟨hat, rfl, h⟩
  · skip
    refine WL.val run_move rfl rfl ?_
    refine WL.val (run_extract rfl rfl) rfl rfl ?_
    refine WL.val (run_extract rfl rfl) rfl rfl ?_
    refine WL.eff (eff_alloc h Try.zeroValue33 rfl) rfl rfl ?_
    rintro _ w ⟨b6, rfl, h⟩
    refine WL.eff (eff_storeN (vs := [.int .i64 _, .int .i64 _, .slice _ _ _]) h Try.sizeOf33 rfl rfl rfl rfl rfl (fun k _ _ => free0 k)) rfl rfl ?_
    rintro _ w h
    try simp only [splice, List.take_zero, List.take_succ_cons, List.take_nil, List.drop_succ_cons, List.drop_zero, List.drop_nil, List.nil_append, List.cons_append, List.append_nil, List.length_cons, List.length_nil, Nat.zero_add, Nat.reduceAdd] at h
    refine WL.val run_assign rfl rfl ?_
    refine WL.nil ?_
    refine W.seq ?_
    refine W.seq ?_
    refine W.region ?_
    refine WL.val run_move rfl rfl ?_
    refine WL.nil ?_
    refine W.condT rfl ?_
    have hir := at?_isSome.1 (show (at? m i).isSome = true by rw [hat]; rfl)
    obtain ⟨k, rfl⟩ := Int.eq_ofNat_of_zero_le hir.1
    obtain ⟨qs, a', c', e1, e2, e3, e4, h⟩ := openN h.p2
    have hlen : qs.length = m.l.length := by rw [← e1]; simp
    have hkl : k < qs.length := by omega
    obtain ⟨_, _, _, hb9, hc9, _⟩ := Own.form h.p1
    refine W.region ?_
    refine WL.val run_move rfl rfl ?_
    refine WL.val run_move rfl rfl ?_
    refine WL.val (run_nilCheck rfl) rfl rfl ?_
    refine WL.val (run_fieldAddr 1 Try.underlying58 rfl Try.sizeOf56 rfl rfl) rfl rfl ?_
    refine WL.val (run_load1 Try.isAgg56 rfl (h.cellB rfl)) rfl rfl ?_
    refine WL.val run_move rfl rfl ?_
    refine WL.val run_move rfl rfl ?_
    refine WL.val (run_incN rfl rfl (by omega)) rfl rfl ?_
    refine WL.eff (eff_call Try.call33 (delete_ok h.p1 (k := k) hkl (oneQ e3))) rfl rfl ?_
    rintro _ w ⟨n', hn', rfl, h⟩
    refine WL.val (run_nilCheck rfl) rfl rfl ?_
    refine WL.val (run_fieldAddr 1 Try.underlying58 rfl Try.sizeOf56 rfl rfl) rfl rfl ?_
    refine WL.eff (eff_store (v := .slice _ _ _) h Try.sizeOf56 rfl rfl rfl rfl rfl) rfl rfl ?_
    rintro _ w h
    try simp only [Nat.zero_add, Nat.add_zero, List.set_cons_zero, List.set_cons_succ] at h
    refine WL.nil ?_
    refine W.seq ?_
    refine W.region ?_
    refine WL.val (run_loadB (vs := [.int .i64 _, .int .i64 _, .slice _ _ _]) h Try.isAgg33 Try.sizeOf33 rfl rfl rfl) rfl rfl ?_
    refine WL.val run_move rfl rfl ?_
    refine WL.eff (eff_storeN (vs := [.int .i64 _, .int .i64 _, .slice _ _ _]) h Try.sizeOf33 rfl rfl rfl rfl rfl (fun k _ _ => free0 k)) rfl rfl ?_
    rintro _ w h
    try simp only [splice, List.take_zero, List.take_succ_cons, List.take_nil, List.drop_succ_cons, List.drop_zero, List.drop_nil, List.nil_append, List.cons_append, List.append_nil, List.length_cons, List.length_nil, Nat.zero_add, Nat.reduceAdd] at h
    refine WL.val run_assign rfl rfl ?_
    refine WL.nil ?_
    refine W.ret ?_
    refine bodyQ.rctB (vs := [.int .i64 _, .int .i64 _, .slice _ _ _]) (v2 := .bool _) h Try.results22 Try.isAgg33 Try.sizeOf33 rfl rfl rfl rfl ?_
    -- path T
    have e : out m k = { m with l := m.l.eraseIdx k } := by unfold out; rw [hat]; rfl
    refine PkRes.some hat rfl ?_
    rw [e]
    rw [take_flatMap Q.cells 3 Q.cells_length, dropAll_flatMap Q.cells 3 Q.cells_length, ← List.flatMap_append, ← List.eraseIdx_eq_take_drop_succ] at h
    have hn2 : n' = (qs.eraseIdx k).length := by rw [List.length_eraseIdx_of_lt hkl]; omega
    rw [hn2] at h
    refine (closeN (m := { m with l := m.l.eraseIdx k }) (qs := qs.eraseIdx k) (a := a') (c := c') ?_ ?_ ?_ ?_ h.p1.d2.d4).p1
    · show _ = m.l.eraseIdx k
      rw [← e1, map_erase]
    · exact fun q hq => e2 q (List.mem_of_mem_eraseIdx hq)
    · exact fun q hq => e3 q (List.mem_of_mem_eraseIdx hq)
    · exact fun q hq => e4 q (List.mem_of_mem_eraseIdx hq)
  · skip
    refine WL.val run_move rfl rfl ?_
    refine WL.val (run_extract rfl rfl) rfl rfl ?_
    refine WL.val (run_extract rfl rfl) rfl rfl ?_
    refine WL.eff (eff_alloc h Try.zeroValue33 rfl) rfl rfl ?_
    rintro _ w ⟨b6, rfl, h⟩
    refine WL.eff (eff_storeN (vs := [.int .i64 _, .int .i64 _, .slice _ _ _]) h Try.sizeOf33 rfl rfl rfl rfl rfl (fun k _ _ => free0 k)) rfl rfl ?_
    rintro _ w h
    try simp only [splice, List.take_zero, List.take_succ_cons, List.take_nil, List.drop_succ_cons, List.drop_zero, List.drop_nil, List.nil_append, List.cons_append, List.append_nil, List.length_cons, List.length_nil, Nat.zero_add, Nat.reduceAdd] at h
    refine WL.val run_assign rfl rfl ?_
    refine WL.nil ?_
    refine W.seq ?_
    refine W.seq ?_
    refine W.region ?_
    refine WL.val run_move rfl rfl ?_
    refine WL.nil ?_
    refine W.condF rfl ?_
    refine W.skip ?_
    refine W.seq ?_
    refine W.region ?_
    refine WL.val (run_loadB (vs := [.int .i64 _, .int .i64 _, .slice _ _ _]) h Try.isAgg33 Try.sizeOf33 rfl rfl rfl) rfl rfl ?_
    refine WL.val run_move rfl rfl ?_
    refine WL.eff (eff_storeN (vs := [.int .i64 _, .int .i64 _, .slice _ _ _]) h Try.sizeOf33 rfl rfl rfl rfl rfl (fun k _ _ => free0 k)) rfl rfl ?_
    rintro _ w h
    try simp only [splice, List.take_zero, List.take_succ_cons, List.take_nil, List.drop_succ_cons, List.drop_zero, List.drop_nil, List.nil_append, List.cons_append, List.append_nil, List.length_cons, List.length_nil, Nat.zero_add, Nat.reduceAdd] at h
    refine WL.val run_assign rfl rfl ?_
    refine WL.nil ?_
    refine W.ret ?_
    refine bodyQ.rctB (vs := [.int .i64 _, .int .i64 _, .slice _ _ _]) (v2 := .bool _) h Try.results22 Try.isAgg33 Try.sizeOf33 rfl rfl rfl rfl ?_
    -- path F
    exact PkRes.none hat rfl (by unfold out; rw [hat]; exact h.tail.d2)

theorem drop_ok {b : Nat} {m : St} {pool : List (Value × List UInt8)} {i : Int} (h : On W0 (NetP 58 b m pool :: Pool pool :: F) w) :
    Calls Try.prog 21 #[.pointer (some ⟨b, 0, none⟩), .int .i64 i] w (Ret fun v w' => v = .bool (at? m i).isSome ∧ On W0 (NetP 58 b (out m i) pool :: Pool pool :: F) w') := by
  refine enter Try.func21 rfl Try.ntmps21 rfl ?_
  refine W.seq ?_
  refine W.region ?_
  refine WL.val run_assign rfl rfl ?_
  refine WL.nil ?_
  refine W.seq ?_
  refine W.region ?_
  refine WL.val run_move rfl rfl ?_
  refine WL.val run_move rfl rfl ?_
  refine WL.eff (eff_call Try.call22 (deliver_ok h)) rfl rfl ?_
  rintro _ w hR
  rcases hR.elim with ⟨p, a, c, hat, rfl, h⟩ | ⟨hat, rfl, h⟩
  · skip
    refine WL.val run_move rfl rfl ?_
    refine WL.val (run_extract rfl rfl) rfl rfl ?_
    refine WL.val (run_extract rfl rfl) rfl rfl ?_
    refine WL.eff (eff_alloc h Try.zeroValue33 rfl) rfl rfl ?_
    rintro _ w ⟨b5, rfl, h⟩
    refine WL.eff (eff_storeN (vs := [.int .i64 _, .int .i64 _, .slice _ _ _]) h Try.sizeOf33 rfl rfl rfl rfl rfl (fun k _ _ => free0 k)) rfl rfl ?_
    rintro _ w h
    try simp only [splice, List.take_zero, List.take_succ_cons, List.take_nil, List.drop_succ_cons, List.drop_zero, List.drop_nil, List.nil_append, List.cons_append, List.append_nil, List.length_cons, List.length_nil, Nat.zero_add, Nat.reduceAdd] at h
    refine WL.val run_assign rfl rfl ?_
    refine WL.nil ?_
    refine W.seq ?_
    refine W.region ?_
    refine WL.val run_move rfl rfl ?_
    refine WL.val run_assign rfl rfl ?_
    refine WL.nil ?_
    refine W.ret ?_
    refine bodyQ.r1 (v := .bool _) Try.results21 rfl ?_
    -- path T
    exact ⟨by rw [hat]; rfl, h.tail.tail⟩
  · skip
    refine WL.val run_move rfl rfl ?_
    refine WL.val (run_extract rfl rfl) rfl rfl ?_
    refine WL.val (run_extract rfl rfl) rfl rfl ?_
    refine WL.eff (eff_alloc h Try.zeroValue33 rfl) rfl rfl ?_
    rintro _ w ⟨b5, rfl, h⟩
    refine WL.eff (eff_storeN (vs := [.int .i64 _, .int .i64 _, .slice _ _ _]) h Try.sizeOf33 rfl rfl rfl rfl rfl (fun k _ _ => free0 k)) rfl rfl ?_
    rintro _ w h
    try simp only [splice, List.take_zero, List.take_succ_cons, List.take_nil, List.drop_succ_cons, List.drop_zero, List.drop_nil, List.nil_append, List.cons_append, List.append_nil, List.length_cons, List.length_nil, Nat.zero_add, Nat.reduceAdd] at h
    refine WL.val run_assign rfl rfl ?_
    refine WL.nil ?_
    refine W.seq ?_
    refine W.region ?_
    refine WL.val run_move rfl rfl ?_
    refine WL.val run_assign rfl rfl ?_
    refine WL.nil ?_
    refine W.ret ?_
    refine bodyQ.r1 (v := .bool _) Try.results21 rfl ?_
    -- path F
    exact ⟨by rw [hat]; rfl, h.tail⟩

theorem copy_ok {b : Nat} {m : St} {pool : List (Value × List UInt8)} {i : Int} (h : On W0 (NetP 58 b m pool :: Pool pool :: F) w) :
    Calls Try.prog 14 #[.pointer (some ⟨b, 0, none⟩), .int .i64 i] w (Ret fun v w' => v = .bool (copyOk m i) ∧
      ∃ pool', (∀ p ∈ pool, p ∈ pool') ∧ On W0 (NetP 58 b (copy m i) pool' :: Pool pool' :: F) w') := by
  refine enter Try.func14 rfl Try.ntmps14 rfl ?_
  obtain ⟨qs, a, c, e1, e2, e3, e4, h⟩ := openN h
  have hlen : qs.length = m.l.length := by rw [← e1]; simp
  obtain ⟨hqc, hcm⟩ := Own.bounds h.p1
  have hl := maxLen_eq
  refine W.seq ?_
  refine W.region ?_
  refine WL.val run_assign rfl rfl ?_
  refine WL.nil ?_
  refine W.seq ?_
  refine W.seq ?_
  refine W.region ?_
  refine WL.val run_move rfl rfl ?_
  refine WL.val run_move rfl rfl ?_
  refine WL.eff (eff_call Try.call27 (is_ok h)) rfl rfl ?_
  rintro _ w ⟨_, rfl, ⟨rfl, ht⟩ | ⟨rfl, ht⟩, h⟩
  · skip
    refine WL.val (run_not rfl) rfl rfl ?_
    refine WL.val run_move rfl rfl ?_
    refine WL.val run_move rfl rfl ?_
    refine WL.val (run_nilCheck rfl) rfl rfl ?_
    refine WL.val (run_fieldAddr 1 Try.underlying58 rfl Try.sizeOf56 rfl rfl) rfl rfl ?_
    refine WL.val (run_load1 Try.isAgg56 rfl (h.cellB rfl)) rfl rfl ?_
    refine WL.val (run_lenSlice Try.underlying56 rfl) rfl rfl ?_
    refine WL.val (run_geq rfl rfl) rfl rfl ?_
    refine WL.val (run_pickF rfl) rfl rfl ?_
    refine WL.nil ?_
    refine W.condIf rfl (fun c2 => ?_) (fun c2 => ?_)
    · skip
      refine W.seq ?_
      refine W.region ?_
      refine WL.val run_assign rfl rfl ?_
      refine WL.nil ?_
      refine W.ret ?_
      refine bodyQ.r1 (v := .bool _) Try.results14 rfl ?_
      -- path TT
      obtain ⟨p, hp, _⟩ := at?_some (m := m) (i := i) ht.1 (by omega)
      exact ⟨by unfold copyOk; rw [show decide (m.l.length < 4096) = false from by simp; omega, Bool.and_false], pool, fun _ h => h, by unfold copy; rw [hp]; show On W0 (NetP _ b (if _ then _ else _) _ :: _) _; rw [if_neg (by omega)]; exact closeN e1 e2 e3 e4 h⟩
    · skip
      refine W.skip ?_
      refine W.seq ?_
      obtain ⟨bq, oq, rfl⟩ := Own.addr h.p1 (by omega)
      obtain ⟨⟨pf, pt, pv, pbs⟩, hq⟩ : ∃ q, qs[i.toNat]? = some q := ⟨qs[i.toNat]'(by omega), by simp⟩
      have hm := List.mem_of_getElem? hq
      have hp := e2 _ hm
      obtain ⟨pa, pc, hpv, _, _, _⟩ := (h.tail.tail.reads (Gives.pool hp)).form
      change pv = .slice pa pbs.length pc at hpv
      subst hpv
      have hb8 := e4 _ hm
      change pbs.length ≤ 8192 at hb8
      refine W.draw Try.follows h (fun w h => ?_)
      refine WT.pure 0 rfl (by kernel_rfl) (fun w' => run_move) rfl rfl ?_
      refine WT.pure 1 rfl (by kernel_rfl) (fun w' => run_move) rfl rfl ?_
      refine WT.pure 2 rfl (by kernel_rfl) (fun w' => (run_nilCheck rfl)) rfl rfl ?_
      refine WT.pure 3 rfl (by kernel_rfl) (fun w' => (run_fieldAddr 1 Try.underlying58 rfl Try.sizeOf56 rfl rfl)) rfl rfl ?_
      refine WT.load1 4 rfl (by kernel_rfl) Try.isAgg56 rfl (h.cellB rfl) rfl rfl ?_
      refine WT.pure 5 rfl (by kernel_rfl) (fun w' => run_move) rfl rfl ?_
      refine WT.pure 6 rfl (by kernel_rfl) (fun w' => (run_nilCheck rfl)) rfl rfl ?_
      refine WT.pure 7 rfl (by kernel_rfl) (fun w' => (run_fieldAddr 1 Try.underlying58 rfl Try.sizeOf56 rfl rfl)) rfl rfl ?_
      refine WT.load1 8 rfl (by kernel_rfl) Try.isAgg56 rfl (h.cellB rfl) rfl rfl ?_
      refine WT.pure 9 rfl (by kernel_rfl) (fun w' => run_move) rfl rfl ?_
      refine WT.pure 10 rfl (by kernel_rfl) (fun w' => (run_indexAddr Try.underlying56 Try.sizeOf33 rfl rfl (by omega) (by omega))) rfl rfl ?_
      refine WT.loadN 11 rfl (by kernel_rfl) Try.isAgg33 Try.sizeOf33 rfl rfl (((h.p1.cells 0 rfl).elem (i := i.toNat) (vs := [.int .i64 pf, .int .i64 pt, .slice pa pbs.length pc]) (by omega) (drop_flatMap Q.cells 3 Q.cells_length qs _ _ hq))) rfl rfl ?_
      refine WT.eff 12 [false, false, true] rfl (by kernel_rfl) (by kernel_rfl) (eff_call Try.call26 (apart_ok h (Gives.pool hp).b.b (by omega))) rfl rfl ?_
      rintro _ w ⟨an, cn, rfl, h⟩
      refine ⟨⟨h.cellB rfl, trivial⟩, ?_⟩
      refine WT.eff 13 [true] rfl (by kernel_rfl) (by kernel_rfl) (eff_mkSlice (zl := [.int .i64 0, .int .i64 0, .slice none 0 0]) (out := [.int .i64 _, .int .i64 _, .slice _ _ _]) h Try.underlying56 Try.sizeOf33 Try.zeroValue33 (by decide) (by kernel_rfl) rfl rfl (by simp) (⟨⟨_, _, rfl, rfl, by decide⟩, trivial⟩) rfl rfl (by simp [maxLen])) rfl rfl ?_
      rintro _ w ⟨b30, rfl, h⟩
      refine ⟨⟨h.cellB rfl, trivial⟩, ?_⟩
      refine WT.eff 14 [false] rfl (by kernel_rfl) (by kernel_rfl) (eff_app (bytes := 40) h rfl rfl h.cellsO Try.underlying56 rfl rfl rfl rfl rfl (by omega) (by omega) (by simp [Value.oneCell'])) rfl rfl ?_
      rintro _ w ⟨a2, c2, rfl, h⟩
      refine ⟨trivial, ?_⟩
      refine WT.pure 15 rfl (by kernel_rfl) (fun w' => (run_nilCheck rfl)) rfl rfl ?_
      refine WT.pure 16 rfl (by kernel_rfl) (fun w' => (run_fieldAddr 1 Try.underlying58 rfl Try.sizeOf56 rfl rfl)) rfl rfl ?_
      refine WT.eff 17 [] rfl (by kernel_rfl) (by kernel_rfl) (eff_store (v := .slice _ _ _) h Try.sizeOf56 rfl rfl rfl rfl rfl) rfl rfl ?_
      rintro _ w h
      try simp only [Nat.zero_add, Nat.add_zero, List.set_cons_zero, List.set_cons_succ] at h
      refine ⟨trivial, ?_⟩
      refine WT.done (by kernel_rfl) ?_
      refine W.seq ?_
      refine W.region ?_
      refine WL.val run_assign rfl rfl ?_
      refine WL.nil ?_
      refine W.ret ?_
      refine bodyQ.r1 (v := .bool _) Try.results14 rfl ?_
      -- path TF
      have e : at? m i = some ⟨pf, pt, pbs⟩ := by
        unfold at?
        rw [if_pos ht.1, ← e1, List.getElem?_map, hq]
        rfl
      refine ⟨by unfold copyOk; rw [e, show decide (m.l.length < 4096) = true from by simp; omega]; rfl, (.slice an pbs.length cn, pbs) :: pool, fun _ h => List.mem_cons_of_mem _ h, ?_⟩
      have h := (On.toPool h.d1.p3.p2).p2.p2.p1
      have e5 : copy m i = { m with l := m.l ++ [⟨pf, pt, pbs⟩] } := by unfold copy; rw [e]; show (if _ then _ else _) = _; rw [if_pos (by omega)]
      rw [e5]
      refine closeN (qs := qs ++ [⟨pf, pt, .slice an pbs.length cn, pbs⟩]) (a := a2) (c := c2) (by simp [e1, Q.pk]) ?_ ?_ ?_ (by simpa [Q.cells] using h)
      · intro q hq
        rcases List.mem_append.1 hq with hq | hq
        · exact List.mem_cons_of_mem _ (e2 q hq)
        · rw [List.mem_singleton] at hq; subst hq; exact List.mem_cons_self ..
      · intro q hq
        rcases List.mem_append.1 hq with hq | hq
        · exact e3 q hq
        · rw [List.mem_singleton] at hq; subst hq; rfl
      · intro q hq
        rcases List.mem_append.1 hq with hq | hq
        · exact e4 q hq
        · rw [List.mem_singleton] at hq; subst hq; exact hb8
  · skip
    refine WL.val (run_not rfl) rfl rfl ?_
    refine WL.val run_move rfl rfl ?_
    refine WL.skip rfl rfl ?_
    refine WL.skip rfl rfl ?_
    refine WL.skip rfl rfl ?_
    refine WL.skip rfl rfl ?_
    refine WL.skip rfl rfl ?_
    refine WL.skip rfl rfl ?_
    refine WL.val (run_pickT rfl) rfl rfl ?_
    refine WL.nil ?_
    refine W.condT rfl ?_
    refine W.seq ?_
    refine W.region ?_
    refine WL.val run_assign rfl rfl ?_
    refine WL.nil ?_
    refine W.ret ?_
    refine bodyQ.r1 (v := .bool _) Try.results14 rfl ?_
    -- path F
    exact ⟨by unfold copyOk; rw [at?_none (by omega)]; rfl, pool, fun _ h => h, by unfold copy; rw [at?_none (by omega)]; exact closeN e1 e2 e3 e4 h⟩

theorem take_ok {b : Nat} {m : St} {pool : List (Value × List UInt8)} {to : Int} (h : On W0 (NetP 58 b m pool :: Pool pool :: F) w) :
    Calls Try.prog 15 #[.pointer (some ⟨b, 0, none⟩), .int .i64 to] w (Ret fun v w' => PkRes (at? m (takeI m to)) W0 (NetP 58 b (out m (takeI m to)) pool :: Pool pool :: F) v w') := by
  refine enter Try.func15 rfl Try.ntmps15 rfl ?_
  obtain ⟨qs, a, c, e1, e2, e3, e4, h⟩ := openN h
  have hlen : qs.length = m.l.length := by rw [← e1]; simp
  obtain ⟨hqc, hcm⟩ := Own.bounds h.p1
  have hl := maxLen_eq
  refine W.seq ?_
  refine W.region ?_
  refine WL.eff (eff_alloc h Try.zeroValue33 rfl) rfl rfl ?_
  rintro _ w ⟨b4, rfl, h⟩
  refine WL.val run_assign rfl rfl ?_
  refine WL.nil ?_
  refine W.scope ?_
  refine W.seq ?_
  refine W.region ?_
  refine WL.val run_assign rfl rfl ?_
  refine WL.nil ?_
  refine W.seq ?_
  refine W.label ?_
  refine W.seq ?_
  refine W.seq ?_
  refine W.region ?_
  refine WL.val run_move rfl rfl ?_
  refine WL.val (run_nilCheck rfl) rfl rfl ?_
  refine WL.val (run_fieldAddr 1 Try.underlying58 rfl Try.sizeOf56 rfl rfl) rfl rfl ?_
  refine WL.val (run_load1 Try.isAgg56 rfl (h.cellB rfl)) rfl rfl ?_
  refine WL.val (run_lenSlice Try.underlying56 rfl) rfl rfl ?_
  refine WL.val run_move rfl rfl ?_
  refine WL.nil ?_
  refine W.block ?_
  refine W.loop (fun (k : Nat) env w => ∃ j, env = mkE j [(0, .pointer (some ⟨b, 0, none⟩)), (1, .int .i64 to), (4, .pointer (some ⟨b4, 0, none⟩)), (6, .int .i64 (-1)), (12, .slice a qs.length c), (13, .int .i64 qs.length), (14, .int .i64 (k : Int))] ∧
    k ≤ qs.length ∧ (∀ (j : Nat) p, j < k → m.l[j]? = some p → p.t ≠ to) ∧ On W0 (blk b4 [.int .i64 0, .int .i64 0, .slice none 0 0] 33 :: blk b [.int .i64 m.H, .slice a qs.length c, .int .i64 m.s] 58 :: Own 3 (.slice a qs.length c) qs.length (qs.flatMap Q.cells) :: Pool pool :: F) w) (fun k => qs.length - k) (0) ?_ ?_
  · exact ⟨_, mkE_of ⟨rfl, rfl, rfl, rfl, rfl, rfl, rfl, trivial⟩, Nat.zero_le _, by intro j p hj; omega, h⟩
  · rintro k env w ⟨j, rfl, hk, hno, h⟩
    refine W.seq ?_
    refine W.region ?_
    refine WL.val (run_lss rfl rfl) rfl rfl ?_
    refine WL.nil ?_
    refine W.seq ?_
    refine W.condIf rfl (fun c8 => ?_) (fun c8 => ?_)
    · skip
      refine W.skip ?_
      refine W.seq ?_
      refine W.block ?_
      refine W.seq ?_
      have hkl : k < qs.length := by omega
      obtain ⟨bq, oq, rfl⟩ := Own.addr h.p2 (by omega)
      obtain ⟨⟨pf, pt, pv, pbs⟩, hq⟩ : ∃ q, qs[k]? = some q := ⟨qs[k], by simp⟩
      have hm := List.mem_of_getElem? hq
      obtain ⟨pa, pc, hpv, _, _, _⟩ := (h.tail.tail.tail.reads (Gives.pool (e2 _ hm))).form
      change pv = .slice pa pbs.length pc at hpv
      subst hpv
      have hmk : m.l[k]? = some ⟨pf, pt, pbs⟩ := by rw [← e1, List.getElem?_map, hq]; rfl
      refine W.region ?_
      refine WL.val run_move rfl rfl ?_
      refine WL.val (run_indexAddr Try.underlying56 Try.sizeOf33 rfl rfl (by omega) (by omega)) rfl rfl ?_
      refine WL.val (run_loadN Try.isAgg33 Try.sizeOf33 rfl rfl ((h.p2.cells 0 rfl).elem (i := k) (vs := [.int .i64 pf, .int .i64 pt, .slice pa pbs.length pc]) (by omega) (drop_flatMap Q.cells 3 Q.cells_length qs _ _ hq))) rfl rfl ?_
      refine WL.eff (eff_alloc h Try.zeroValue33 rfl) rfl rfl ?_
      rintro _ w ⟨b8, rfl, h⟩
      refine WL.val run_assign rfl rfl ?_
      refine WL.eff (eff_storeN (vs := [.int .i64 _, .int .i64 _, .slice _ _ _]) h Try.sizeOf33 rfl rfl rfl rfl rfl (fun k _ _ => free0 k)) rfl rfl ?_
      rintro _ w h
      try simp only [splice, List.take_zero, List.take_succ_cons, List.take_nil, List.drop_succ_cons, List.drop_zero, List.drop_nil, List.nil_append, List.cons_append, List.append_nil, List.length_cons, List.length_nil, Nat.zero_add, Nat.reduceAdd] at h
      refine WL.nil ?_
      refine W.seq ?_
      refine W.region ?_
      refine WL.val (run_fieldAddr 1 Try.underlying33 rfl Try.sizeOf3 rfl rfl) rfl rfl ?_
      refine WL.val (run_load1 Try.isAgg3 rfl (h.cellB rfl)) rfl rfl ?_
      refine WL.val run_move rfl rfl ?_
      refine WL.val (run_eql rfl rfl) rfl rfl ?_
      refine WL.nil ?_
      refine W.condIf rfl (fun c14 => ?_) (fun c14 => ?_)
      · skip
        refine W.seq ?_
        refine W.region ?_
        refine WL.val run_move rfl rfl ?_
        refine WL.val run_assign rfl rfl ?_
        refine WL.nil ?_
        refine W.exit ?_
        refine W.seq ?_
        have ht : takeI m to = k := takeI_some hmk c14 hno
        have h := closeN e1 e2 e3 e4 h.tail.q2
        refine W.region ?_
        refine WL.val run_move rfl rfl ?_
        refine WL.val run_move rfl rfl ?_
        refine WL.eff (eff_call Try.call22 (deliver_ok (F := blk b4 _ _ :: F) h.p2.p1)) rfl rfl ?_
        rintro _ w hR
        rcases hR.elim with ⟨p, a, c, hat, rfl, h⟩ | ⟨hat, rfl, h⟩
        · skip
          refine WL.val (run_extract rfl rfl) rfl rfl ?_
          refine WL.val (run_extract rfl rfl) rfl rfl ?_
          refine WL.eff (eff_storeN (vs := [.int .i64 _, .int .i64 _, .slice _ _ _]) h Try.sizeOf33 rfl rfl rfl rfl rfl (fun k _ _ => free0 k)) rfl rfl ?_
          rintro _ w h
          try simp only [splice, List.take_zero, List.take_succ_cons, List.take_nil, List.drop_succ_cons, List.drop_zero, List.drop_nil, List.nil_append, List.cons_append, List.append_nil, List.length_cons, List.length_nil, Nat.zero_add, Nat.reduceAdd] at h
          refine WL.val run_assign rfl rfl ?_
          refine WL.nil ?_
          refine W.ret ?_
          refine bodyQ.rctB (vs := [.int .i64 _, .int .i64 _, .slice _ _ _]) (v2 := .bool _) h Try.results15 Try.isAgg33 Try.sizeOf33 rfl rfl rfl rfl ?_
          -- path LTTT
          rw [ht]
          exact PkRes.some hat rfl h.d3
        · skip
          refine WL.val (run_extract rfl rfl) rfl rfl ?_
          refine WL.val (run_extract rfl rfl) rfl rfl ?_
          refine WL.eff (eff_storeN (vs := [.int .i64 _, .int .i64 _, .slice _ _ _]) h Try.sizeOf33 rfl rfl rfl rfl rfl (fun k _ _ => free0 k)) rfl rfl ?_
          rintro _ w h
          try simp only [splice, List.take_zero, List.take_succ_cons, List.take_nil, List.drop_succ_cons, List.drop_zero, List.drop_nil, List.nil_append, List.cons_append, List.append_nil, List.length_cons, List.length_nil, Nat.zero_add, Nat.reduceAdd] at h
          refine WL.val run_assign rfl rfl ?_
          refine WL.nil ?_
          refine W.ret ?_
          refine bodyQ.rctB (vs := [.int .i64 _, .int .i64 _, .slice _ _ _]) (v2 := .bool _) h Try.results15 Try.isAgg33 Try.sizeOf33 rfl rfl rfl rfl ?_
          -- path LTTF
          rw [ht]
          exact PkRes.none hat rfl h.d2
      · skip
        refine W.skip ?_
        refine W.region ?_
        refine WL.val (run_add rfl rfl (by omega) (by omega)) rfl rfl ?_
        refine WL.val run_move rfl rfl ?_
        refine WL.nil ?_
        -- round, path LTF
        exact ⟨k + 1, ⟨_, mkE_of ⟨rfl, rfl, rfl, rfl, rfl, rfl, rfl, trivial⟩, by omega, (by
          intro j p hj hp
          by_cases hjk : j = k
          · subst hjk; rw [hmk] at hp; cases hp; exact c14
          · exact hno j p (by omega) hp), h.tail⟩, by show qs.length - (k + 1) < qs.length - k; omega⟩
    · skip
      refine W.exit ?_
      refine W.seq ?_
      have hkn : k = qs.length := by omega
      have ht : takeI m to = -1 := takeI_none fun j p hp => hno j p (by have := (List.getElem?_eq_some_iff.1 hp).1; omega) hp
      have h := closeN e1 e2 e3 e4 h.q2
      refine W.region ?_
      refine WL.val run_move rfl rfl ?_
      refine WL.val run_move rfl rfl ?_
      refine WL.eff (eff_call Try.call22 (deliver_ok (F := blk b4 _ _ :: F) h.p2.p1)) rfl rfl ?_
      rintro _ w hR
      rcases hR.elim with ⟨p, a, c, hat, rfl, h⟩ | ⟨hat, rfl, h⟩
      · skip
        refine WL.val (run_extract rfl rfl) rfl rfl ?_
        refine WL.val (run_extract rfl rfl) rfl rfl ?_
        refine WL.eff (eff_storeN (vs := [.int .i64 _, .int .i64 _, .slice _ _ _]) h Try.sizeOf33 rfl rfl rfl rfl rfl (fun k _ _ => free0 k)) rfl rfl ?_
        rintro _ w h
        try simp only [splice, List.take_zero, List.take_succ_cons, List.take_nil, List.drop_succ_cons, List.drop_zero, List.drop_nil, List.nil_append, List.cons_append, List.append_nil, List.length_cons, List.length_nil, Nat.zero_add, Nat.reduceAdd] at h
        refine WL.val run_assign rfl rfl ?_
        refine WL.nil ?_
        refine W.ret ?_
        refine bodyQ.rctB (vs := [.int .i64 _, .int .i64 _, .slice _ _ _]) (v2 := .bool _) h Try.results15 Try.isAgg33 Try.sizeOf33 rfl rfl rfl rfl ?_
        -- path LFT
        rw [ht]
        exact PkRes.some hat rfl h.d3
      · skip
        refine WL.val (run_extract rfl rfl) rfl rfl ?_
        refine WL.val (run_extract rfl rfl) rfl rfl ?_
        refine WL.eff (eff_storeN (vs := [.int .i64 _, .int .i64 _, .slice _ _ _]) h Try.sizeOf33 rfl rfl rfl rfl rfl (fun k _ _ => free0 k)) rfl rfl ?_
        rintro _ w h
        try simp only [splice, List.take_zero, List.take_succ_cons, List.take_nil, List.drop_succ_cons, List.drop_zero, List.drop_nil, List.nil_append, List.cons_append, List.append_nil, List.length_cons, List.length_nil, Nat.zero_add, Nat.reduceAdd] at h
        refine WL.val run_assign rfl rfl ?_
        refine WL.nil ?_
        refine W.ret ?_
        refine bodyQ.rctB (vs := [.int .i64 _, .int .i64 _, .slice _ _ _]) (v2 := .bool _) h Try.results15 Try.isAgg33 Try.sizeOf33 rfl rfl rfl rfl ?_
        -- path LFF
        rw [ht]
        exact PkRes.none hat rfl h.d2

theorem rnew_ok {H : Int} (h : On W0 F w) :
    Calls Try.prog 17 #[.int .i64 H] w (Ret fun v w' => (¬ (1 ≤ H ∧ H ≤ 64) ∧ v = .tuple #[.pointer none, .int .i64 1] ∧ On W0 F w') ∨
      ((1 ≤ H ∧ H ≤ 64) ∧ ∃ b, v = .tuple #[.pointer (some ⟨b, 0, none⟩), .int .i64 0] ∧ On W0 (RefP 47 b ⟨H, [], 0⟩ :: F) w')) := by
  refine enter Try.func17 rfl Try.ntmps17 rfl ?_
  refine W.seq ?_
  refine W.region ?_
  refine WL.val run_assign rfl rfl ?_
  refine WL.val run_assign rfl rfl ?_
  refine WL.nil ?_
  refine W.seq ?_
  refine W.seq ?_
  refine W.region ?_
  refine WL.val run_move rfl rfl ?_
  refine WL.dec (run_lss rfl rfl) rfl rfl (fun c5 => ?_) (fun c5 => ?_)
  · skip
    refine WL.val run_move rfl rfl ?_
    refine WL.skip rfl rfl ?_
    refine WL.skip rfl rfl ?_
    refine WL.val (run_pickT rfl) rfl rfl ?_
    refine WL.nil ?_
    refine W.condT rfl ?_
    refine W.seq ?_
    refine W.region ?_
    refine WL.val run_assign rfl rfl ?_
    refine WL.val run_assign rfl rfl ?_
    refine WL.nil ?_
    refine W.ret ?_
    refine bodyQ.r2 (v1 := .pointer _) (v2 := .int .i64 _) Try.results17 rfl rfl ?_
    -- path T
    exact .inl ⟨by omega, rfl, h⟩
  · skip
    refine WL.val run_move rfl rfl ?_
    refine WL.val run_move rfl rfl ?_
    refine WL.val (run_gtr rfl rfl) rfl rfl ?_
    refine WL.val (run_pickF rfl) rfl rfl ?_
    refine WL.nil ?_
    refine W.condIf rfl (fun c2 => ?_) (fun c2 => ?_)
    · skip
      refine W.seq ?_
      refine W.region ?_
      refine WL.val run_assign rfl rfl ?_
      refine WL.val run_assign rfl rfl ?_
      refine WL.nil ?_
      refine W.ret ?_
      refine bodyQ.r2 (v1 := .pointer _) (v2 := .int .i64 _) Try.results17 rfl rfl ?_
      -- path FT
      exact .inl ⟨by omega, rfl, h⟩
    · skip
      refine W.skip ?_
      refine W.seq ?_
      refine W.region ?_
      refine WL.val run_move rfl rfl ?_
      refine WL.val (run_buildS (pl := [(0, 1), (1, 1), (2, 1)]) (out := [.int .i64 _, .slice _ _ _, .int .i64 _]) Try.underlying47 Try.zeroValue47 (fun w => by kernel_rfl) rfl (⟨⟨_, _, rfl, rfl, by decide⟩, trivial⟩) rfl) rfl rfl ?_
      refine WL.eff (eff_box (v := .agg _) (l := [.int .i64 _, .slice _ _ _, .int .i64 _]) h rfl rfl) rfl rfl ?_
      rintro _ w ⟨b12, rfl, h⟩
      refine WL.val run_assign rfl rfl ?_
      refine WL.val run_assign rfl rfl ?_
      refine WL.nil ?_
      refine W.ret ?_
      refine bodyQ.r2 (v1 := .pointer _) (v2 := .int .i64 _) Try.results17 rfl rfl ?_
      -- path FF
      refine .inr ⟨by omega, _, rfl, ?_⟩
      exact closeR (a := none) (c := 0) (by simp) ((h.ownEmpty 3 none).p1)

theorem rsend_ok {b : Nat} {m : St} {f t : Int} {ax : Option Addr} {cx : Nat} {bs : List UInt8} (h : On W0 (RefP 47 b m :: F) w) (C : Gives F (Bytes (.slice ax bs.length cx) bs)) (hs0 : 0 ≤ m.s) (hs1 : m.s ≤ 1000000000000000000) :
    Calls Try.prog 28 #[.pointer (some ⟨b, 0, none⟩), .int .i64 f, .int .i64 t, .slice ax bs.length cx] w (Ret fun v w' => v = .int .i64 (sendE m f t bs.length) ∧
      On W0 (RefP 47 b (send m f t bs) :: F) w') := by
  refine enter Try.func28 rfl Try.ntmps28 rfl ?_
  obtain ⟨a, c, hln, h⟩ := openR h
  obtain ⟨hqc, hcm⟩ := Own.bounds h.p1
  have hl := maxLen_eq
  refine W.seq ?_
  refine W.region ?_
  refine WL.val run_assign rfl rfl ?_
  refine WL.nil ?_
  refine W.seq ?_
  refine W.block ?_
  refine W.seq ?_
  refine W.region ?_
  refine WL.val run_move rfl rfl ?_
  refine WL.dec (run_lss rfl rfl) rfl rfl (fun c11 => ?_) (fun c11 => ?_)
  · skip
    refine WL.val run_move rfl rfl ?_
    refine WL.skip rfl rfl ?_
    refine WL.skip rfl rfl ?_
    refine WL.skip rfl rfl ?_
    refine WL.skip rfl rfl ?_
    refine WL.skip rfl rfl ?_
    refine WL.skip rfl rfl ?_
    refine WL.val (run_pickT rfl) rfl rfl ?_
    refine WL.val run_move rfl rfl ?_
    refine WL.skip rfl rfl ?_
    refine WL.skip rfl rfl ?_
    refine WL.val (run_pickT rfl) rfl rfl ?_
    refine WL.val run_move rfl rfl ?_
    refine WL.skip rfl rfl ?_
    refine WL.skip rfl rfl ?_
    refine WL.skip rfl rfl ?_
    refine WL.skip rfl rfl ?_
    refine WL.skip rfl rfl ?_
    refine WL.skip rfl rfl ?_
    refine WL.val (run_pickT rfl) rfl rfl ?_
    refine WL.val run_assign rfl rfl ?_
    refine WL.nil ?_
    refine W.condT rfl ?_
    refine W.seq ?_
    refine W.region ?_
    refine WL.val run_assign rfl rfl ?_
    refine WL.nil ?_
    refine W.ret ?_
    refine bodyQ.r1 (v := .int .i64 _) Try.results28 rfl ?_
    -- path T
    have e : sendE m f t bs.length = 1 := by unfold sendE; rw [if_pos]; omega
    exact ⟨by rw [e], by unfold send; rw [e]; exact closeR hln h⟩
  · skip
    refine WL.val run_move rfl rfl ?_
    refine WL.val run_move rfl rfl ?_
    refine WL.val run_move rfl rfl ?_
    refine WL.val (run_nilCheck rfl) rfl rfl ?_
    refine WL.val (run_fieldAddr 0 Try.underlying47 rfl Try.sizeOf3 rfl rfl) rfl rfl ?_
    refine WL.val (run_load1 Try.isAgg3 rfl (h.cellB rfl)) rfl rfl ?_
    refine WL.dec (run_geq rfl rfl) rfl rfl (fun c18 => ?_) (fun c18 => ?_)
    · skip
      refine WL.val (run_pickF rfl) rfl rfl ?_
      refine WL.val run_move rfl rfl ?_
      refine WL.skip rfl rfl ?_
      refine WL.skip rfl rfl ?_
      refine WL.val (run_pickT rfl) rfl rfl ?_
      refine WL.val run_move rfl rfl ?_
      refine WL.skip rfl rfl ?_
      refine WL.skip rfl rfl ?_
      refine WL.skip rfl rfl ?_
      refine WL.skip rfl rfl ?_
      refine WL.skip rfl rfl ?_
      refine WL.skip rfl rfl ?_
      refine WL.val (run_pickT rfl) rfl rfl ?_
      refine WL.val run_assign rfl rfl ?_
      refine WL.nil ?_
      refine W.condT rfl ?_
      refine W.seq ?_
      refine W.region ?_
      refine WL.val run_assign rfl rfl ?_
      refine WL.nil ?_
      refine W.ret ?_
      refine bodyQ.r1 (v := .int .i64 _) Try.results28 rfl ?_
      -- path FT
      have e : sendE m f t bs.length = 1 := by unfold sendE; rw [if_pos]; omega
      exact ⟨by rw [e], by unfold send; rw [e]; exact closeR hln h⟩
    · skip
      refine WL.val (run_pickF rfl) rfl rfl ?_
      refine WL.val run_move rfl rfl ?_
      refine WL.val run_move rfl rfl ?_
      refine WL.dec (run_lss rfl rfl) rfl rfl (fun c22 => ?_) (fun c22 => ?_)
      · skip
        refine WL.val (run_pickF rfl) rfl rfl ?_
        refine WL.val run_move rfl rfl ?_
        refine WL.skip rfl rfl ?_
        refine WL.skip rfl rfl ?_
        refine WL.skip rfl rfl ?_
        refine WL.skip rfl rfl ?_
        refine WL.skip rfl rfl ?_
        refine WL.skip rfl rfl ?_
        refine WL.val (run_pickT rfl) rfl rfl ?_
        refine WL.val run_assign rfl rfl ?_
        refine WL.nil ?_
        refine W.condT rfl ?_
        refine W.seq ?_
        refine W.region ?_
        refine WL.val run_assign rfl rfl ?_
        refine WL.nil ?_
        refine W.ret ?_
        refine bodyQ.r1 (v := .int .i64 _) Try.results28 rfl ?_
        -- path FFT
        have e : sendE m f t bs.length = 1 := by unfold sendE; rw [if_pos]; omega
        exact ⟨by rw [e], by unfold send; rw [e]; exact closeR hln h⟩
      · skip
        refine WL.val (run_pickF rfl) rfl rfl ?_
        refine WL.val run_move rfl rfl ?_
        refine WL.val run_move rfl rfl ?_
        refine WL.val run_move rfl rfl ?_
        refine WL.val (run_nilCheck rfl) rfl rfl ?_
        refine WL.val (run_fieldAddr 0 Try.underlying47 rfl Try.sizeOf3 rfl rfl) rfl rfl ?_
        refine WL.val (run_load1 Try.isAgg3 rfl (h.cellB rfl)) rfl rfl ?_
        refine WL.val (run_geq rfl rfl) rfl rfl ?_
        refine WL.val (run_pickF rfl) rfl rfl ?_
        refine WL.val run_assign rfl rfl ?_
        refine WL.nil ?_
        refine W.condIf rfl (fun c3 => ?_) (fun c3 => ?_)
        · skip
          refine W.seq ?_
          refine W.region ?_
          refine WL.val run_assign rfl rfl ?_
          refine WL.nil ?_
          refine W.ret ?_
          refine bodyQ.r1 (v := .int .i64 _) Try.results28 rfl ?_
          -- path FFFT
          have e : sendE m f t bs.length = 1 := by unfold sendE; rw [if_pos]; omega
          exact ⟨by rw [e], by unfold send; rw [e]; exact closeR hln h⟩
        · skip
          refine W.seq ?_
          refine W.region ?_
          refine WL.val run_move rfl rfl ?_
          refine WL.val (run_lenSlice Try.underlying30 rfl) rfl rfl ?_
          refine WL.val (run_gtr rfl rfl) rfl rfl ?_
          refine WL.val run_assign rfl rfl ?_
          refine WL.nil ?_
          refine W.condIf rfl (fun c7 => ?_) (fun c7 => ?_)
          · skip
            refine W.seq ?_
            refine W.region ?_
            refine WL.val run_assign rfl rfl ?_
            refine WL.nil ?_
            refine W.ret ?_
            refine bodyQ.r1 (v := .int .i64 _) Try.results28 rfl ?_
            -- path FFFFT
            have e : sendE m f t bs.length = 5 := by unfold sendE; rw [if_neg (by omega), if_pos (by omega)]
            exact ⟨by rw [e], by unfold send; rw [e]; exact closeR hln h⟩
          · skip
            refine W.seq ?_
            refine W.region ?_
            refine WL.val run_move rfl rfl ?_
            refine WL.val (run_nilCheck rfl) rfl rfl ?_
            refine WL.val (run_fieldAddr 1 Try.underlying47 rfl Try.sizeOf45 rfl rfl) rfl rfl ?_
            refine WL.val (run_load1 Try.isAgg45 rfl (h.cellB rfl)) rfl rfl ?_
            refine WL.val (run_lenSlice Try.underlying45 rfl) rfl rfl ?_
            refine WL.val (run_geq rfl rfl) rfl rfl ?_
            refine WL.val run_assign rfl rfl ?_
            refine WL.nil ?_
            refine W.condIf rfl (fun c11 => ?_) (fun c11 => ?_)
            · skip
              refine W.seq ?_
              refine W.region ?_
              refine WL.val run_assign rfl rfl ?_
              refine WL.nil ?_
              refine W.ret ?_
              refine bodyQ.r1 (v := .int .i64 _) Try.results28 rfl ?_
              -- path FFFFFT
              have e : sendE m f t bs.length = 7 := by unfold sendE; rw [if_neg (by omega), if_neg (by omega), if_pos (by omega)]
              exact ⟨by rw [e], by unfold send; rw [e]; exact closeR hln h⟩
            · skip
              refine W.skip ?_
              refine W.cut (fun env w => ∃ j a' c', env = mkE j [(0, .pointer (some ⟨b, 0, none⟩))] ∧ On W0 (blk b [.int .i64 m.H, .slice a' (m.l.length + 1) c', .int .i64 m.s] 47 :: Own 3 (.slice a' (m.l.length + 1) c') (m.l.length + 1) (m.l.flatMap rk ++ [.int .i64 f, .int .i64 t, .string ⟨bs.toArray⟩]) :: F) w) ?_ ?_
              · skip
                refine W.draw Try.follows h (fun w h => ?_)
                refine WT.pure 0 rfl (by kernel_rfl) (fun w' => run_move) rfl rfl ?_
                refine WT.pure 2 rfl (by kernel_rfl) (fun w' => run_move) rfl rfl ?_
                refine WT.pure 3 rfl (by kernel_rfl) (fun w' => (run_nilCheck rfl)) rfl rfl ?_
                refine WT.pure 4 rfl (by kernel_rfl) (fun w' => (run_fieldAddr 1 Try.underlying47 rfl Try.sizeOf45 rfl rfl)) rfl rfl ?_
                refine WT.load1 5 rfl (by kernel_rfl) Try.isAgg45 rfl (h.cellB rfl) rfl rfl ?_
                refine WT.pure 7 rfl (by kernel_rfl) (fun w' => run_move) rfl rfl ?_
                refine WT.pure 8 rfl (by kernel_rfl) (fun w' => run_move) rfl rfl ?_
                refine WT.pure 9 rfl (by kernel_rfl) (fun w' => run_move) rfl rfl ?_
                refine WT.take 10 (fun w => Bytes (.slice ax bs.length cx) (bs) (hp w)) rfl (by kernel_rfl) rfl rfl (h.readsTo C) (fun w' hC => run_bytesStr Try.underlying30 Try.underlying5 Try.underlying9 rfl hC) ?_
                refine WT.pure 11 rfl (by kernel_rfl) (fun w' => (run_buildS (pl := [(0, 1), (1, 1), (2, 1)]) (out := [.int .i64 _, .int .i64 _, .string _]) Try.underlying50 Try.zeroValue50 (fun w => by kernel_rfl) rfl (⟨⟨_, _, rfl, rfl, by decide⟩, ⟨⟨_, _, rfl, rfl, by decide⟩, ⟨⟨_, _, rfl, rfl, by decide⟩, trivial⟩⟩⟩) rfl)) rfl rfl ?_
                -- SEVERAL MAY COME UP: [(1, 'buildSlice []gemelref9.Packet 0[]'), (12, 'buildSlice []gemelref9.Packet 1[0:t54]')]
                refine WT.two 1 12 (by kernel_rfl) ?_ ?_
                · skip
                  refine WT.opOf 1 [true, true] rfl (by kernel_rfl) (eff_mkSlice (zl := []) (out := []) h Try.underlying45 Try.sizeOf50 Try.zeroValue50 (by decide) (by simp) rfl rfl (by simp) (trivial) rfl rfl (by simp [maxLen])) rfl rfl ?_
                  rintro _ w ⟨b44, rfl, h⟩
                  refine ⟨⟨h.readsTo C, h.cellB rfl, trivial⟩, ?_⟩
                  -- SEVERAL MAY COME UP: [(6, ' append(t44, t48)'), (12, 'buildSlice []gemelref9.Packet 1[0:t54]')]
                  refine WT.two 6 12 (by kernel_rfl) ?_ ?_
                  · skip
                    refine WT.opOf 6 [true, false] rfl (by kernel_rfl) (eff_app0 (bytes := 32) h rfl rfl h.cellsO Try.underlying45 rfl rfl rfl rfl rfl (by omega) (by omega) oneR) rfl rfl ?_
                    rintro _ w ⟨a1, c1, rfl, h⟩
                    refine ⟨⟨h.readsTo C, trivial⟩, ?_⟩
                    refine WT.eff 12 [false] rfl (by kernel_rfl) (by kernel_rfl) (eff_mkSlice (zl := [.int .i64 0, .int .i64 0, .string (ByteArray.mk #[])]) (out := [.int .i64 _, .int .i64 _, .string _]) h Try.underlying45 Try.sizeOf50 Try.zeroValue50 (by decide) (by kernel_rfl) rfl rfl (by simp) (⟨⟨_, _, rfl, rfl, by decide⟩, trivial⟩) rfl rfl (by simp [maxLen])) rfl rfl ?_
                    rintro _ w ⟨b55, rfl, h⟩
                    refine ⟨trivial, ?_⟩
                    refine WT.eff 13 [] rfl (by kernel_rfl) (by kernel_rfl) (eff_app (bytes := 32) h rfl rfl h.cellsO Try.underlying45 rfl rfl rfl rfl rfl (by omega) (by omega) (by simp [Value.oneCell'])) rfl rfl ?_
                    rintro _ w ⟨a2, c2, rfl, h⟩
                    refine ⟨trivial, ?_⟩
                    refine WT.pure 14 rfl (by kernel_rfl) (fun w' => (run_nilCheck rfl)) rfl rfl ?_
                    refine WT.pure 15 rfl (by kernel_rfl) (fun w' => (run_fieldAddr 1 Try.underlying47 rfl Try.sizeOf45 rfl rfl)) rfl rfl ?_
                    refine WT.eff 16 [] rfl (by kernel_rfl) (by kernel_rfl) (eff_store (v := .slice _ _ _) h Try.sizeOf45 rfl rfl rfl rfl rfl) rfl rfl ?_
                    rintro _ w h
                    try simp only [Nat.zero_add, Nat.add_zero, List.set_cons_zero, List.set_cons_succ] at h
                    refine ⟨trivial, ?_⟩
                    refine WT.done (by kernel_rfl) ?_
                    -- to the cut, path FFFFFFaa
                    exact ⟨_, a2, c2, mkE_of ⟨rfl, trivial⟩, h.to⟩
                  · skip
                    refine WT.opOf 12 [false, true] rfl (by kernel_rfl) (eff_mkSlice (zl := [.int .i64 0, .int .i64 0, .string (ByteArray.mk #[])]) (out := [.int .i64 _, .int .i64 _, .string _]) h Try.underlying45 Try.sizeOf50 Try.zeroValue50 (by decide) (by kernel_rfl) rfl rfl (by simp) (⟨⟨_, _, rfl, rfl, by decide⟩, trivial⟩) rfl rfl (by simp [maxLen])) rfl rfl ?_
                    rintro _ w ⟨b55, rfl, h⟩
                    refine ⟨⟨h.cellB rfl, trivial⟩, ?_⟩
                    refine WT.eff 6 [false] rfl (by kernel_rfl) (by kernel_rfl) (eff_app0 (bytes := 32) h rfl rfl h.cellsO Try.underlying45 rfl rfl rfl rfl rfl (by omega) (by omega) oneR) rfl rfl ?_
                    rintro _ w ⟨a1, c1, rfl, h⟩
                    refine ⟨trivial, ?_⟩
                    refine WT.eff 13 [] rfl (by kernel_rfl) (by kernel_rfl) (eff_app (bytes := 32) h rfl rfl h.cellsO Try.underlying45 rfl rfl rfl rfl rfl (by omega) (by omega) (by simp [Value.oneCell'])) rfl rfl ?_
                    rintro _ w ⟨a2, c2, rfl, h⟩
                    refine ⟨trivial, ?_⟩
                    refine WT.pure 14 rfl (by kernel_rfl) (fun w' => (run_nilCheck rfl)) rfl rfl ?_
                    refine WT.pure 15 rfl (by kernel_rfl) (fun w' => (run_fieldAddr 1 Try.underlying47 rfl Try.sizeOf45 rfl rfl)) rfl rfl ?_
                    refine WT.eff 16 [] rfl (by kernel_rfl) (by kernel_rfl) (eff_store (v := .slice _ _ _) h Try.sizeOf45 rfl rfl rfl rfl rfl) rfl rfl ?_
                    rintro _ w h
                    try simp only [Nat.zero_add, Nat.add_zero, List.set_cons_zero, List.set_cons_succ] at h
                    refine ⟨trivial, ?_⟩
                    refine WT.done (by kernel_rfl) ?_
                    -- to the cut, path FFFFFFab
                    exact ⟨_, a2, c2, mkE_of ⟨rfl, trivial⟩, h.to⟩
                · skip
                  refine WT.opOf 12 [false, true] rfl (by kernel_rfl) (eff_mkSlice (zl := [.int .i64 0, .int .i64 0, .string (ByteArray.mk #[])]) (out := [.int .i64 _, .int .i64 _, .string _]) h Try.underlying45 Try.sizeOf50 Try.zeroValue50 (by decide) (by kernel_rfl) rfl rfl (by simp) (⟨⟨_, _, rfl, rfl, by decide⟩, trivial⟩) rfl rfl (by simp [maxLen])) rfl rfl ?_
                  rintro _ w ⟨b55, rfl, h⟩
                  refine ⟨⟨h.cellB rfl, trivial⟩, ?_⟩
                  refine WT.eff 1 [true] rfl (by kernel_rfl) (by kernel_rfl) (eff_mkSlice (zl := []) (out := []) h Try.underlying45 Try.sizeOf50 Try.zeroValue50 (by decide) (by simp) rfl rfl (by simp) (trivial) rfl rfl (by simp [maxLen])) rfl rfl ?_
                  rintro _ w ⟨b44, rfl, h⟩
                  refine ⟨⟨h.cellB rfl, trivial⟩, ?_⟩
                  refine WT.eff 6 [false] rfl (by kernel_rfl) (by kernel_rfl) (eff_app0 (bytes := 32) h rfl rfl h.cellsO Try.underlying45 rfl rfl rfl rfl rfl (by omega) (by omega) oneR) rfl rfl ?_
                  rintro _ w ⟨a1, c1, rfl, h⟩
                  refine ⟨trivial, ?_⟩
                  refine WT.eff 13 [] rfl (by kernel_rfl) (by kernel_rfl) (eff_app (bytes := 32) h rfl rfl h.cellsO Try.underlying45 rfl rfl rfl rfl rfl (by omega) (by omega) (by simp [Value.oneCell'])) rfl rfl ?_
                  rintro _ w ⟨a2, c2, rfl, h⟩
                  refine ⟨trivial, ?_⟩
                  refine WT.pure 14 rfl (by kernel_rfl) (fun w' => (run_nilCheck rfl)) rfl rfl ?_
                  refine WT.pure 15 rfl (by kernel_rfl) (fun w' => (run_fieldAddr 1 Try.underlying47 rfl Try.sizeOf45 rfl rfl)) rfl rfl ?_
                  refine WT.eff 16 [] rfl (by kernel_rfl) (by kernel_rfl) (eff_store (v := .slice _ _ _) h Try.sizeOf45 rfl rfl rfl rfl rfl) rfl rfl ?_
                  rintro _ w h
                  try simp only [Nat.zero_add, Nat.add_zero, List.set_cons_zero, List.set_cons_succ] at h
                  refine ⟨trivial, ?_⟩
                  refine WT.done (by kernel_rfl) ?_
                  -- to the cut, path FFFFFFb
                  exact ⟨_, a2, c2, mkE_of ⟨rfl, trivial⟩, h.to⟩
              · rintro env w ⟨j, a', c', rfl, h⟩
                refine W.seq ?_
                refine W.region ?_
                refine WL.val run_move rfl rfl ?_
                refine WL.val (run_nilCheck rfl) rfl rfl ?_
                refine WL.val (run_fieldAddr 2 Try.underlying47 rfl Try.sizeOf3 rfl rfl) rfl rfl ?_
                refine WL.val (run_load1 Try.isAgg3 rfl (h.cellB rfl)) rfl rfl ?_
                refine WL.val (run_add rfl rfl (by omega) (by omega)) rfl rfl ?_
                refine WL.val (run_nilCheck rfl) rfl rfl ?_
                refine WL.val (run_fieldAddr 2 Try.underlying47 rfl Try.sizeOf3 rfl rfl) rfl rfl ?_
                refine WL.eff (eff_store (v := .int .i64 _) h Try.sizeOf3 rfl rfl rfl rfl rfl) rfl rfl ?_
                rintro _ w h
                try simp only [Nat.zero_add, Nat.add_zero, List.set_cons_zero, List.set_cons_succ] at h
                refine WL.nil ?_
                refine W.seq ?_
                refine W.region ?_
                refine WL.val run_assign rfl rfl ?_
                refine WL.nil ?_
                refine W.ret ?_
                refine bodyQ.r1 (v := .int .i64 _) Try.results28 rfl ?_
                -- path FFFFFF
                have e : sendE m f t bs.length = 0 := by unfold sendE; rw [if_neg (by omega), if_neg (by omega), if_neg (by omega)]
                refine ⟨by rw [e], ?_⟩
                unfold send
                rw [if_pos e]
                exact closeR (a := a') (c := c') (by simp; omega) (by simpa [rk] using h)

theorem rat_ok {b : Nat} {m : St} {i : Int} (h : On W0 (RefP 47 b m :: F) w) :
    Calls Try.prog 32 #[.pointer (some ⟨b, 0, none⟩), .int .i64 i] w (Ret fun v w' => v = rkV (at? m i) ∧ On W0 (RefP 47 b m :: F) w') := by
  refine enter Try.func32 rfl Try.ntmps32 rfl ?_
  obtain ⟨a, c, hln, h⟩ := openR h
  obtain ⟨hqc, hcm⟩ := Own.bounds h.p1
  have hl := maxLen_eq
  refine W.seq ?_
  refine W.region ?_
  refine WL.eff (eff_alloc h Try.zeroValue50 rfl) rfl rfl ?_
  rintro _ w ⟨b4, rfl, h⟩
  refine WL.val run_assign rfl rfl ?_
  refine WL.nil ?_
  refine W.seq ?_
  refine W.seq ?_
  refine W.region ?_
  refine WL.val run_move rfl rfl ?_
  refine WL.dec (run_lss rfl rfl) rfl rfl (fun c7 => ?_) (fun c7 => ?_)
  · skip
    refine WL.val run_move rfl rfl ?_
    refine WL.skip rfl rfl ?_
    refine WL.skip rfl rfl ?_
    refine WL.skip rfl rfl ?_
    refine WL.skip rfl rfl ?_
    refine WL.skip rfl rfl ?_
    refine WL.skip rfl rfl ?_
    refine WL.skip rfl rfl ?_
    refine WL.val (run_pickT rfl) rfl rfl ?_
    refine WL.nil ?_
    refine W.condT rfl ?_
    refine W.seq ?_
    refine W.region ?_
    refine WL.val (run_buildS (pl := [(0, 1), (1, 1), (2, 1)]) (out := [.int .i64 _, .int .i64 _, .string _]) Try.underlying50 Try.zeroValue50 (fun w => by kernel_rfl) rfl (trivial) rfl) rfl rfl ?_
    refine WL.eff (eff_storeN (vs := [.int .i64 _, .int .i64 _, .string _]) h Try.sizeOf50 rfl rfl rfl rfl rfl (fun k _ _ => free0 k)) rfl rfl ?_
    rintro _ w h
    try simp only [splice, List.take_zero, List.take_succ_cons, List.take_nil, List.drop_succ_cons, List.drop_zero, List.drop_nil, List.nil_append, List.cons_append, List.append_nil, List.length_cons, List.length_nil, Nat.zero_add, Nat.reduceAdd] at h
    refine WL.val run_assign rfl rfl ?_
    refine WL.nil ?_
    refine W.ret ?_
    refine bodyQ.rctB (vs := [.int .i64 _, .int .i64 _, .string _]) (v2 := .bool _) h Try.results32 Try.isAgg50 Try.sizeOf50 rfl rfl rfl rfl ?_
    -- path T
    exact ⟨by rw [at?_none (by omega)]; rfl, closeR (a := a) (c := c) hln h.to⟩
  · skip
    refine WL.val run_move rfl rfl ?_
    refine WL.val run_move rfl rfl ?_
    refine WL.val run_move rfl rfl ?_
    refine WL.val (run_nilCheck rfl) rfl rfl ?_
    refine WL.val (run_fieldAddr 1 Try.underlying47 rfl Try.sizeOf45 rfl rfl) rfl rfl ?_
    refine WL.val (run_load1 Try.isAgg45 rfl (h.cellB rfl)) rfl rfl ?_
    refine WL.val (run_lenSlice Try.underlying45 rfl) rfl rfl ?_
    refine WL.val (run_geq rfl rfl) rfl rfl ?_
    refine WL.val (run_pickF rfl) rfl rfl ?_
    refine WL.nil ?_
    refine W.condIf rfl (fun c2 => ?_) (fun c2 => ?_)
    · skip
      refine W.seq ?_
      refine W.region ?_
      refine WL.val (run_buildS (pl := [(0, 1), (1, 1), (2, 1)]) (out := [.int .i64 _, .int .i64 _, .string _]) Try.underlying50 Try.zeroValue50 (fun w => by kernel_rfl) rfl (trivial) rfl) rfl rfl ?_
      refine WL.eff (eff_storeN (vs := [.int .i64 _, .int .i64 _, .string _]) h Try.sizeOf50 rfl rfl rfl rfl rfl (fun k _ _ => free0 k)) rfl rfl ?_
      rintro _ w h
      try simp only [splice, List.take_zero, List.take_succ_cons, List.take_nil, List.drop_succ_cons, List.drop_zero, List.drop_nil, List.nil_append, List.cons_append, List.append_nil, List.length_cons, List.length_nil, Nat.zero_add, Nat.reduceAdd] at h
      refine WL.val run_assign rfl rfl ?_
      refine WL.nil ?_
      refine W.ret ?_
      refine bodyQ.rctB (vs := [.int .i64 _, .int .i64 _, .string _]) (v2 := .bool _) h Try.results32 Try.isAgg50 Try.sizeOf50 rfl rfl rfl rfl ?_
      -- path FT
      exact ⟨by rw [at?_none (by omega)]; rfl, closeR (a := a) (c := c) hln h.to⟩
    · skip
      refine W.skip ?_
      refine W.seq ?_
      obtain ⟨bq, oq, rfl⟩ := Own.addr h.p2 (by omega)
      obtain ⟨⟨pf, pt, pbs⟩, hp, hq⟩ := at?_some (m := m) (i := i) (by omega) (by omega)
      refine W.region ?_
      refine WL.val run_move rfl rfl ?_
      refine WL.val (run_nilCheck rfl) rfl rfl ?_
      refine WL.val (run_fieldAddr 1 Try.underlying47 rfl Try.sizeOf45 rfl rfl) rfl rfl ?_
      refine WL.val (run_load1 Try.isAgg45 rfl (h.cellB rfl)) rfl rfl ?_
      refine WL.val run_move rfl rfl ?_
      refine WL.val (run_indexAddr Try.underlying45 Try.sizeOf50 rfl rfl (by omega) (by omega)) rfl rfl ?_
      refine WL.val (run_loadN Try.isAgg50 Try.sizeOf50 rfl rfl ((h.cellsO (v := .slice (some ⟨bq, oq, none⟩) m.l.length c)).elem (i := i.toNat) (vs := [.int .i64 pf, .int .i64 pt, .string ⟨pbs.toArray⟩]) (by omega) (drop_flatMap rk 3 rk_length m.l _ _ hq))) rfl rfl ?_
      refine WL.eff (eff_storeN (vs := [.int .i64 _, .int .i64 _, .string _]) h Try.sizeOf50 rfl rfl rfl rfl rfl (fun k _ _ => free0 k)) rfl rfl ?_
      rintro _ w h
      try simp only [splice, List.take_zero, List.take_succ_cons, List.take_nil, List.drop_succ_cons, List.drop_zero, List.drop_nil, List.nil_append, List.cons_append, List.append_nil, List.length_cons, List.length_nil, Nat.zero_add, Nat.reduceAdd] at h
      refine WL.val run_assign rfl rfl ?_
      refine WL.nil ?_
      refine W.ret ?_
      refine bodyQ.rctB (vs := [.int .i64 _, .int .i64 _, .string _]) (v2 := .bool _) h Try.results32 Try.isAgg50 Try.sizeOf50 rfl rfl rfl rfl ?_
      -- path FF
      exact ⟨by rw [hp]; rfl, closeR (a := some ⟨bq, oq, none⟩) (c := c) hln h.to⟩

theorem rout_ok {b : Nat} {m : St} {i : Int} (h : On W0 (RefP 47 b m :: F) w) :
    Calls Try.prog 29 #[.pointer (some ⟨b, 0, none⟩), .int .i64 i] w (Ret fun v w' => v = rkV (at? m i) ∧ On W0 (RefP 47 b (out m i) :: F) w') := by
  refine enter Try.func29 rfl Try.ntmps29 rfl ?_
  have hl := maxLen_eq
  refine W.seq ?_
  refine W.region ?_
  refine WL.eff (eff_alloc h Try.zeroValue50 rfl) rfl rfl ?_
  rintro _ w ⟨b4, rfl, h⟩
  refine WL.val run_assign rfl rfl ?_
  refine WL.nil ?_
  refine W.seq ?_
  refine W.region ?_
  refine WL.val run_move rfl rfl ?_
  refine WL.val run_move rfl rfl ?_
  refine WL.eff (eff_call Try.call32 (rat_ok (F := _ :: F) h.p1)) rfl rfl ?_
  rintro _ w ⟨rfl, h⟩
  rcases hat : at? m i with _ | p
  rotate_left
  · skip
    refine WL.val run_move rfl rfl ?_
    refine WL.val (run_extract rfl rfl) rfl rfl ?_
    refine WL.val (run_extract rfl rfl) rfl rfl ?_
    refine WL.eff (eff_alloc h Try.zeroValue50 rfl) rfl rfl ?_
    rintro _ w ⟨b6, rfl, h⟩
    refine WL.eff (eff_storeN (vs := [.int .i64 _, .int .i64 _, .string _]) h Try.sizeOf50 rfl rfl rfl rfl rfl (fun k _ _ => free0 k)) rfl rfl ?_
    rintro _ w h
    try simp only [splice, List.take_zero, List.take_succ_cons, List.take_nil, List.drop_succ_cons, List.drop_zero, List.drop_nil, List.nil_append, List.cons_append, List.append_nil, List.length_cons, List.length_nil, Nat.zero_add, Nat.reduceAdd] at h
    refine WL.val run_assign rfl rfl ?_
    refine WL.nil ?_
    refine W.seq ?_
    refine W.seq ?_
    refine W.region ?_
    refine WL.val run_move rfl rfl ?_
    refine WL.nil ?_
    refine W.condT rfl ?_
    refine W.seq ?_
    have hir := at?_isSome.1 (show (at? m i).isSome = true by rw [hat]; rfl)
    obtain ⟨k, rfl⟩ := Int.eq_ofNat_of_zero_le hir.1
    have hkl : k < m.l.length := by omega
    obtain ⟨a, c, hln, h⟩ := openR h.p1
    obtain ⟨hqc, hcm⟩ := Own.bounds h.p1
    refine W.region ?_
    refine WL.eff (eff_mkSlice (zl := []) (out := []) h Try.underlying45 Try.sizeOf50 Try.zeroValue50 (by decide) (by simp) rfl rfl (by simp) (trivial) rfl rfl (by simp [maxLen])) rfl rfl ?_
    rintro _ w ⟨b16, rfl, h⟩
    refine WL.val run_move rfl rfl ?_
    refine WL.val (run_nilCheck rfl) rfl rfl ?_
    refine WL.val (run_fieldAddr 1 Try.underlying47 rfl Try.sizeOf45 rfl rfl) rfl rfl ?_
    refine WL.val (run_load1 Try.isAgg45 rfl (h.cellB rfl)) rfl rfl ?_
    refine WL.val run_move rfl rfl ?_
    refine WL.val (run_cutH Try.underlying45 Try.sizeOf50 rfl rfl  (by omega)) rfl rfl ?_
    refine WL.eff (eff_app0 (bytes := 32) h rfl rfl ((h.cellsO (v := .slice a m.l.length c)).front (k := k) (by omega)) Try.underlying45 rfl rfl rfl rfl rfl (by omega) (by omega) (fun u hu => oneR u (List.mem_of_mem_take hu))) rfl rfl ?_
    rintro _ w ⟨a1, c1, rfl, h⟩
    refine WL.val run_assign rfl rfl ?_
    refine WL.nil ?_
    refine W.region ?_
    refine WL.val run_move rfl rfl ?_
    refine WL.val run_move rfl rfl ?_
    refine WL.val run_move rfl rfl ?_
    refine WL.val (run_nilCheck rfl) rfl rfl ?_
    refine WL.val (run_fieldAddr 1 Try.underlying47 rfl Try.sizeOf45 rfl rfl) rfl rfl ?_
    refine WL.val (run_load1 Try.isAgg45 rfl (h.cellB rfl)) rfl rfl ?_
    refine WL.val run_move rfl rfl ?_
    refine WL.val (run_incN rfl rfl (by omega)) rfl rfl ?_
    refine WL.val (run_cutL Try.underlying45 Try.sizeOf50 rfl rfl  (by omega)) rfl rfl ?_
    refine WL.eff (eff_app (c2 := _) (bytes := 32) h rfl rfl ((h.cellsO (v := .slice a m.l.length c)).cut (l := k + 1) (h := m.l.length) (m := c) (by omega) (by omega) (by omega) (by omega)) Try.underlying45 rfl rfl rfl rfl rfl (by omega) (by omega) (fun u hu => oneR u (List.mem_of_mem_drop (List.mem_of_mem_take hu)))) rfl rfl ?_
    rintro _ w ⟨a2, c2, rfl, h⟩
    refine WL.val (run_nilCheck rfl) rfl rfl ?_
    refine WL.val (run_fieldAddr 1 Try.underlying47 rfl Try.sizeOf45 rfl rfl) rfl rfl ?_
    refine WL.eff (eff_store (v := .slice _ _ _) h Try.sizeOf45 rfl rfl rfl rfl rfl) rfl rfl ?_
    rintro _ w h
    try simp only [Nat.zero_add, Nat.add_zero, List.set_cons_zero, List.set_cons_succ] at h
    refine WL.nil ?_
    refine W.seq ?_
    refine W.region ?_
    refine WL.val (run_loadB (vs := [.int .i64 _, .int .i64 _, .string _]) h Try.isAgg50 Try.sizeOf50 rfl rfl rfl) rfl rfl ?_
    refine WL.val run_move rfl rfl ?_
    refine WL.eff (eff_storeN (vs := [.int .i64 _, .int .i64 _, .string _]) h Try.sizeOf50 rfl rfl rfl rfl rfl (fun k _ _ => free0 k)) rfl rfl ?_
    rintro _ w h
    try simp only [splice, List.take_zero, List.take_succ_cons, List.take_nil, List.drop_succ_cons, List.drop_zero, List.drop_nil, List.nil_append, List.cons_append, List.append_nil, List.length_cons, List.length_nil, Nat.zero_add, Nat.reduceAdd] at h
    refine WL.val run_assign rfl rfl ?_
    refine WL.nil ?_
    refine W.ret ?_
    refine bodyQ.rctB (vs := [.int .i64 _, .int .i64 _, .string _]) (v2 := .bool _) h Try.results29 Try.isAgg50 Try.sizeOf50 rfl rfl rfl rfl ?_
    -- path T
    have e : out m k = { m with l := m.l.eraseIdx k } := by unfold out; rw [hat]; rfl
    refine ⟨rfl, ?_⟩
    rw [e]
    rw [take_flatMap rk 3 rk_length, dropAll_flatMap rk 3 rk_length, List.take_of_length_le (l := (m.l.drop (k + 1)).flatMap rk) (by rw [flatMap_length rk 3 rk_length, List.length_drop]; exact Nat.le_refl _), ← List.flatMap_append, ← List.eraseIdx_eq_take_drop_succ] at h
    have hn2 : k + (m.l.length - (k + 1)) = (m.l.eraseIdx k).length := by rw [List.length_eraseIdx_of_lt hkl]; omega
    rw [hn2] at h
    exact closeR (m := { m with l := m.l.eraseIdx k }) (a := a2) (c := c2) (by show (m.l.eraseIdx k).length ≤ 4096; rw [List.length_eraseIdx_of_lt hkl]; omega) h.to
  · skip
    refine WL.val run_move rfl rfl ?_
    refine WL.val (run_extract rfl rfl) rfl rfl ?_
    refine WL.val (run_extract rfl rfl) rfl rfl ?_
    refine WL.eff (eff_alloc h Try.zeroValue50 rfl) rfl rfl ?_
    rintro _ w ⟨b6, rfl, h⟩
    refine WL.eff (eff_storeN (vs := [.int .i64 _, .int .i64 _, .string _]) h Try.sizeOf50 rfl rfl rfl rfl rfl (fun k _ _ => free0 k)) rfl rfl ?_
    rintro _ w h
    try simp only [splice, List.take_zero, List.take_succ_cons, List.take_nil, List.drop_succ_cons, List.drop_zero, List.drop_nil, List.nil_append, List.cons_append, List.append_nil, List.length_cons, List.length_nil, Nat.zero_add, Nat.reduceAdd] at h
    refine WL.val run_assign rfl rfl ?_
    refine WL.nil ?_
    refine W.seq ?_
    refine W.seq ?_
    refine W.region ?_
    refine WL.val run_move rfl rfl ?_
    refine WL.nil ?_
    refine W.condF rfl ?_
    refine W.skip ?_
    refine W.seq ?_
    refine W.region ?_
    refine WL.val (run_loadB (vs := [.int .i64 _, .int .i64 _, .string _]) h Try.isAgg50 Try.sizeOf50 rfl rfl rfl) rfl rfl ?_
    refine WL.val run_move rfl rfl ?_
    refine WL.eff (eff_storeN (vs := [.int .i64 _, .int .i64 _, .string _]) h Try.sizeOf50 rfl rfl rfl rfl rfl (fun k _ _ => free0 k)) rfl rfl ?_
    rintro _ w h
    try simp only [splice, List.take_zero, List.take_succ_cons, List.take_nil, List.drop_succ_cons, List.drop_zero, List.drop_nil, List.nil_append, List.cons_append, List.append_nil, List.length_cons, List.length_nil, Nat.zero_add, Nat.reduceAdd] at h
    refine WL.val run_assign rfl rfl ?_
    refine WL.nil ?_
    refine W.ret ?_
    refine bodyQ.rctB (vs := [.int .i64 _, .int .i64 _, .string _]) (v2 := .bool _) h Try.results29 Try.isAgg50 Try.sizeOf50 rfl rfl rfl rfl ?_
    -- path F
    exact ⟨rfl, by rw [out_none hat]; exact h.to⟩

theorem rcopy_ok {b : Nat} {m : St} {i : Int} (h : On W0 (RefP 47 b m :: F) w) :
    Calls Try.prog 30 #[.pointer (some ⟨b, 0, none⟩), .int .i64 i] w (Ret fun v w' => v = .bool (copyOk m i) ∧ On W0 (RefP 47 b (copy m i) :: F) w') := by
  refine enter Try.func30 rfl Try.ntmps30 rfl ?_
  have hl := maxLen_eq
  refine W.seq ?_
  refine W.region ?_
  refine WL.val run_assign rfl rfl ?_
  refine WL.nil ?_
  refine W.seq ?_
  refine W.region ?_
  refine WL.val run_move rfl rfl ?_
  refine WL.val run_move rfl rfl ?_
  refine WL.eff (eff_call Try.call32 (rat_ok h)) rfl rfl ?_
  rintro _ w ⟨rfl, h⟩
  rcases hat : at? m i with _ | p
  rotate_left
  · skip
    refine WL.val run_move rfl rfl ?_
    refine WL.val (run_extract rfl rfl) rfl rfl ?_
    refine WL.val (run_extract rfl rfl) rfl rfl ?_
    refine WL.eff (eff_alloc h Try.zeroValue50 rfl) rfl rfl ?_
    rintro _ w ⟨b5, rfl, h⟩
    refine WL.eff (eff_storeN (vs := [.int .i64 _, .int .i64 _, .string _]) h Try.sizeOf50 rfl rfl rfl rfl rfl (fun k _ _ => free0 k)) rfl rfl ?_
    rintro _ w h
    try simp only [splice, List.take_zero, List.take_succ_cons, List.take_nil, List.drop_succ_cons, List.drop_zero, List.drop_nil, List.nil_append, List.cons_append, List.append_nil, List.length_cons, List.length_nil, Nat.zero_add, Nat.reduceAdd] at h
    refine WL.val run_assign rfl rfl ?_
    refine WL.nil ?_
    refine W.seq ?_
    refine W.seq ?_
    obtain ⟨a, c, hln, h⟩ := openR h.p1
    obtain ⟨hqc, hcm⟩ := Own.bounds h.p1
    refine W.region ?_
    refine WL.val run_move rfl rfl ?_
    refine WL.val (run_not rfl) rfl rfl ?_
    refine WL.val run_move rfl rfl ?_
    refine WL.val run_move rfl rfl ?_
    refine WL.val (run_nilCheck rfl) rfl rfl ?_
    refine WL.val (run_fieldAddr 1 Try.underlying47 rfl Try.sizeOf45 rfl rfl) rfl rfl ?_
    refine WL.val (run_load1 Try.isAgg45 rfl (h.cellB rfl)) rfl rfl ?_
    refine WL.val (run_lenSlice Try.underlying45 rfl) rfl rfl ?_
    refine WL.val (run_geq rfl rfl) rfl rfl ?_
    refine WL.val (run_pickF rfl) rfl rfl ?_
    refine WL.nil ?_
    refine W.condIf rfl (fun c3 => ?_) (fun c3 => ?_)
    · skip
      refine W.seq ?_
      refine W.region ?_
      refine WL.val run_assign rfl rfl ?_
      refine WL.nil ?_
      refine W.ret ?_
      refine bodyQ.r1 (v := .bool _) Try.results30 rfl ?_
      -- path TT
      exact ⟨by unfold copyOk; rw [show decide (m.l.length < 4096) = false from by simp; omega, Bool.and_false], by unfold copy; rw [hat]; show On W0 (RefP _ b (if _ then _ else _) :: _) _; rw [if_neg (by omega)]; exact closeR (a := a) (c := c) hln h.to⟩
    · skip
      refine W.skip ?_
      refine W.cut (fun env w => ∃ j a' c', env = mkE j [(0, .pointer (some ⟨b, 0, none⟩))] ∧ On W0 (blk b [.int .i64 m.H, .slice a' (m.l.length + 1) c', .int .i64 m.s] 47 :: Own 3 (.slice a' (m.l.length + 1) c') (m.l.length + 1) (m.l.flatMap rk ++ [.int .i64 p.f, .int .i64 p.t, .string ⟨p.bs.toArray⟩]) :: F) w) ?_ ?_
      · skip
        refine W.draw Try.follows h (fun w h => ?_)
        refine WT.pure 0 rfl (by kernel_rfl) (fun w' => run_move) rfl rfl ?_
        refine WT.pure 2 rfl (by kernel_rfl) (fun w' => run_move) rfl rfl ?_
        refine WT.pure 3 rfl (by kernel_rfl) (fun w' => (run_nilCheck rfl)) rfl rfl ?_
        refine WT.pure 4 rfl (by kernel_rfl) (fun w' => (run_fieldAddr 1 Try.underlying47 rfl Try.sizeOf45 rfl rfl)) rfl rfl ?_
        refine WT.load1 5 rfl (by kernel_rfl) Try.isAgg45 rfl (h.cellB rfl) rfl rfl ?_
        refine WT.loadN (vs := [.int .i64 _, .int .i64 _, .string _]) 7 rfl (by kernel_rfl) Try.isAgg50 Try.sizeOf50 rfl rfl (h.rowV (n := 3) rfl) rfl rfl ?_
        -- SEVERAL MAY COME UP: [(1, 'buildSlice []gemelref9.Packet 0[]'), (8, 'buildSlice []gemelref9.Packet 1[0:t30]')]
        refine WT.two 1 8 (by kernel_rfl) ?_ ?_
        · skip
          refine WT.opOf 1 [true, true] rfl (by kernel_rfl) (eff_mkSlice (zl := []) (out := []) h Try.underlying45 Try.sizeOf50 Try.zeroValue50 (by decide) (by simp) rfl rfl (by simp) (trivial) rfl rfl (by simp [maxLen])) rfl rfl ?_
          rintro _ w ⟨b24, rfl, h⟩
          refine ⟨⟨(h.rowV (n := 3) rfl), h.cellB rfl, trivial⟩, ?_⟩
          -- SEVERAL MAY COME UP: [(6, ' append(t24, t28)'), (8, 'buildSlice []gemelref9.Packet 1[0:t30]')]
          refine WT.two 6 8 (by kernel_rfl) ?_ ?_
          · skip
            refine WT.opOf 6 [true, false] rfl (by kernel_rfl) (eff_app0 (bytes := 32) h rfl rfl h.cellsO Try.underlying45 rfl rfl rfl rfl rfl (by omega) (by omega) oneR) rfl rfl ?_
            rintro _ w ⟨a1, c1, rfl, h⟩
            refine ⟨⟨(h.rowV (n := 3) rfl), trivial⟩, ?_⟩
            refine WT.eff 8 [false] rfl (by kernel_rfl) (by kernel_rfl) (eff_mkSlice (zl := [.int .i64 0, .int .i64 0, .string (ByteArray.mk #[])]) (out := [.int .i64 _, .int .i64 _, .string _]) h Try.underlying45 Try.sizeOf50 Try.zeroValue50 (by decide) (by kernel_rfl) rfl rfl (by simp) (⟨⟨_, _, rfl, rfl, by decide⟩, trivial⟩) rfl rfl (by simp [maxLen])) rfl rfl ?_
            rintro _ w ⟨b31, rfl, h⟩
            refine ⟨trivial, ?_⟩
            refine WT.eff 9 [] rfl (by kernel_rfl) (by kernel_rfl) (eff_app (bytes := 32) h rfl rfl h.cellsO Try.underlying45 rfl rfl rfl rfl rfl (by omega) (by omega) (by simp [Value.oneCell'])) rfl rfl ?_
            rintro _ w ⟨a2, c2, rfl, h⟩
            refine ⟨trivial, ?_⟩
            refine WT.pure 10 rfl (by kernel_rfl) (fun w' => (run_nilCheck rfl)) rfl rfl ?_
            refine WT.pure 11 rfl (by kernel_rfl) (fun w' => (run_fieldAddr 1 Try.underlying47 rfl Try.sizeOf45 rfl rfl)) rfl rfl ?_
            refine WT.eff 12 [] rfl (by kernel_rfl) (by kernel_rfl) (eff_store (v := .slice _ _ _) h Try.sizeOf45 rfl rfl rfl rfl rfl) rfl rfl ?_
            rintro _ w h
            try simp only [Nat.zero_add, Nat.add_zero, List.set_cons_zero, List.set_cons_succ] at h
            refine ⟨trivial, ?_⟩
            refine WT.done (by kernel_rfl) ?_
            -- to the cut, path TFaa
            exact ⟨_, a2, c2, mkE_of ⟨rfl, trivial⟩, h.to⟩
          · skip
            refine WT.opOf 8 [false, true] rfl (by kernel_rfl) (eff_mkSlice (zl := [.int .i64 0, .int .i64 0, .string (ByteArray.mk #[])]) (out := [.int .i64 _, .int .i64 _, .string _]) h Try.underlying45 Try.sizeOf50 Try.zeroValue50 (by decide) (by kernel_rfl) rfl rfl (by simp) (⟨⟨_, _, rfl, rfl, by decide⟩, trivial⟩) rfl rfl (by simp [maxLen])) rfl rfl ?_
            rintro _ w ⟨b31, rfl, h⟩
            refine ⟨⟨h.cellB rfl, trivial⟩, ?_⟩
            refine WT.eff 6 [false] rfl (by kernel_rfl) (by kernel_rfl) (eff_app0 (bytes := 32) h rfl rfl h.cellsO Try.underlying45 rfl rfl rfl rfl rfl (by omega) (by omega) oneR) rfl rfl ?_
            rintro _ w ⟨a1, c1, rfl, h⟩
            refine ⟨trivial, ?_⟩
            refine WT.eff 9 [] rfl (by kernel_rfl) (by kernel_rfl) (eff_app (bytes := 32) h rfl rfl h.cellsO Try.underlying45 rfl rfl rfl rfl rfl (by omega) (by omega) (by simp [Value.oneCell'])) rfl rfl ?_
            rintro _ w ⟨a2, c2, rfl, h⟩
            refine ⟨trivial, ?_⟩
            refine WT.pure 10 rfl (by kernel_rfl) (fun w' => (run_nilCheck rfl)) rfl rfl ?_
            refine WT.pure 11 rfl (by kernel_rfl) (fun w' => (run_fieldAddr 1 Try.underlying47 rfl Try.sizeOf45 rfl rfl)) rfl rfl ?_
            refine WT.eff 12 [] rfl (by kernel_rfl) (by kernel_rfl) (eff_store (v := .slice _ _ _) h Try.sizeOf45 rfl rfl rfl rfl rfl) rfl rfl ?_
            rintro _ w h
            try simp only [Nat.zero_add, Nat.add_zero, List.set_cons_zero, List.set_cons_succ] at h
            refine ⟨trivial, ?_⟩
            refine WT.done (by kernel_rfl) ?_
            -- to the cut, path TFab
            exact ⟨_, a2, c2, mkE_of ⟨rfl, trivial⟩, h.to⟩
        · skip
          refine WT.opOf 8 [false, true] rfl (by kernel_rfl) (eff_mkSlice (zl := [.int .i64 0, .int .i64 0, .string (ByteArray.mk #[])]) (out := [.int .i64 _, .int .i64 _, .string _]) h Try.underlying45 Try.sizeOf50 Try.zeroValue50 (by decide) (by kernel_rfl) rfl rfl (by simp) (⟨⟨_, _, rfl, rfl, by decide⟩, trivial⟩) rfl rfl (by simp [maxLen])) rfl rfl ?_
          rintro _ w ⟨b31, rfl, h⟩
          refine ⟨⟨h.cellB rfl, trivial⟩, ?_⟩
          refine WT.eff 1 [true] rfl (by kernel_rfl) (by kernel_rfl) (eff_mkSlice (zl := []) (out := []) h Try.underlying45 Try.sizeOf50 Try.zeroValue50 (by decide) (by simp) rfl rfl (by simp) (trivial) rfl rfl (by simp [maxLen])) rfl rfl ?_
          rintro _ w ⟨b24, rfl, h⟩
          refine ⟨⟨h.cellB rfl, trivial⟩, ?_⟩
          refine WT.eff 6 [false] rfl (by kernel_rfl) (by kernel_rfl) (eff_app0 (bytes := 32) h rfl rfl h.cellsO Try.underlying45 rfl rfl rfl rfl rfl (by omega) (by omega) oneR) rfl rfl ?_
          rintro _ w ⟨a1, c1, rfl, h⟩
          refine ⟨trivial, ?_⟩
          refine WT.eff 9 [] rfl (by kernel_rfl) (by kernel_rfl) (eff_app (bytes := 32) h rfl rfl h.cellsO Try.underlying45 rfl rfl rfl rfl rfl (by omega) (by omega) (by simp [Value.oneCell'])) rfl rfl ?_
          rintro _ w ⟨a2, c2, rfl, h⟩
          refine ⟨trivial, ?_⟩
          refine WT.pure 10 rfl (by kernel_rfl) (fun w' => (run_nilCheck rfl)) rfl rfl ?_
          refine WT.pure 11 rfl (by kernel_rfl) (fun w' => (run_fieldAddr 1 Try.underlying47 rfl Try.sizeOf45 rfl rfl)) rfl rfl ?_
          refine WT.eff 12 [] rfl (by kernel_rfl) (by kernel_rfl) (eff_store (v := .slice _ _ _) h Try.sizeOf45 rfl rfl rfl rfl rfl) rfl rfl ?_
          rintro _ w h
          try simp only [Nat.zero_add, Nat.add_zero, List.set_cons_zero, List.set_cons_succ] at h
          refine ⟨trivial, ?_⟩
          refine WT.done (by kernel_rfl) ?_
          -- to the cut, path TFb
          exact ⟨_, a2, c2, mkE_of ⟨rfl, trivial⟩, h.to⟩
      · rintro env w ⟨j, a', c', rfl, h⟩
        refine W.seq ?_
        refine W.region ?_
        refine WL.val run_assign rfl rfl ?_
        refine WL.nil ?_
        refine W.ret ?_
        refine bodyQ.r1 (v := .bool _) Try.results30 rfl ?_
        -- path TF
        refine ⟨by unfold copyOk; rw [hat, show decide (m.l.length < 4096) = true from by simp; omega]; rfl, ?_⟩
        have e5 : copy m i = { m with l := m.l ++ [p] } := by unfold copy; rw [hat]; show (if _ then _ else _) = _; rw [if_pos (by omega)]
        rw [e5]
        exact closeR (m := { m with l := m.l ++ [p] }) (a := a') (c := c') (by simp; omega) (by simpa [rk] using h)
  · skip
    refine WL.val run_move rfl rfl ?_
    refine WL.val (run_extract rfl rfl) rfl rfl ?_
    refine WL.val (run_extract rfl rfl) rfl rfl ?_
    refine WL.eff (eff_alloc h Try.zeroValue50 rfl) rfl rfl ?_
    rintro _ w ⟨b5, rfl, h⟩
    refine WL.eff (eff_storeN (vs := [.int .i64 _, .int .i64 _, .string _]) h Try.sizeOf50 rfl rfl rfl rfl rfl (fun k _ _ => free0 k)) rfl rfl ?_
    rintro _ w h
    try simp only [splice, List.take_zero, List.take_succ_cons, List.take_nil, List.drop_succ_cons, List.drop_zero, List.drop_nil, List.nil_append, List.cons_append, List.append_nil, List.length_cons, List.length_nil, Nat.zero_add, Nat.reduceAdd] at h
    refine WL.val run_assign rfl rfl ?_
    refine WL.nil ?_
    refine W.seq ?_
    refine W.seq ?_
    have h := h.p1
    refine W.region ?_
    refine WL.val run_move rfl rfl ?_
    refine WL.val (run_not rfl) rfl rfl ?_
    refine WL.val run_move rfl rfl ?_
    refine WL.skip rfl rfl ?_
    refine WL.skip rfl rfl ?_
    refine WL.skip rfl rfl ?_
    refine WL.skip rfl rfl ?_
    refine WL.skip rfl rfl ?_
    refine WL.skip rfl rfl ?_
    refine WL.val (run_pickT rfl) rfl rfl ?_
    refine WL.nil ?_
    refine W.condT rfl ?_
    refine W.seq ?_
    refine W.region ?_
    refine WL.val run_assign rfl rfl ?_
    refine WL.nil ?_
    refine W.ret ?_
    refine bodyQ.r1 (v := .bool _) Try.results30 rfl ?_
    -- path F
    exact ⟨by unfold copyOk; rw [hat]; rfl, by unfold copy; rw [hat]; exact h.to⟩

theorem rtake_ok {b : Nat} {m : St} {to : Int} (h : On W0 (RefP 47 b m :: F) w) :
    Calls Try.prog 31 #[.pointer (some ⟨b, 0, none⟩), .int .i64 to] w (Ret fun v w' => v = rkV (at? m (takeI m to)) ∧ On W0 (RefP 47 b (out m (takeI m to)) :: F) w') := by
  refine enter Try.func31 rfl Try.ntmps31 rfl ?_
  obtain ⟨a, c, hln, h⟩ := openR h
  obtain ⟨hqc, hcm⟩ := Own.bounds h.p1
  have hl := maxLen_eq
  refine W.seq ?_
  refine W.region ?_
  refine WL.eff (eff_alloc h Try.zeroValue50 rfl) rfl rfl ?_
  rintro _ w ⟨b4, rfl, h⟩
  refine WL.val run_assign rfl rfl ?_
  refine WL.nil ?_
  refine W.seq ?_
  refine W.seq ?_
  refine W.region ?_
  refine WL.val run_assign rfl rfl ?_
  refine WL.nil ?_
  refine W.block ?_
  refine W.loop (fun (k : Nat) env w => ∃ j, env = mkE j [(0, .pointer (some ⟨b, 0, none⟩)), (1, .int .i64 to), (4, .pointer (some ⟨b4, 0, none⟩)), (6, .int .i64 (k : Int))] ∧
    k ≤ m.l.length ∧ (∀ (j : Nat) p, j < k → m.l[j]? = some p → p.t ≠ to) ∧ On W0 (blk b4 [.int .i64 0, .int .i64 0, .string ⟨#[]⟩] 50 :: blk b [.int .i64 m.H, .slice a m.l.length c, .int .i64 m.s] 47 :: Own 3 (.slice a m.l.length c) m.l.length (m.l.flatMap rk) :: F) w) (fun k => m.l.length - k) (0) ?_ ?_
  · exact ⟨_, mkE_of ⟨rfl, rfl, rfl, rfl, trivial⟩, Nat.zero_le _, by intro j p hj; omega, h⟩
  · rintro k env w ⟨j, rfl, hk, hno, h⟩
    refine W.seq ?_
    refine W.seq ?_
    refine W.region ?_
    refine WL.val run_move rfl rfl ?_
    refine WL.val run_move rfl rfl ?_
    refine WL.val (run_nilCheck rfl) rfl rfl ?_
    refine WL.val (run_fieldAddr 1 Try.underlying47 rfl Try.sizeOf45 rfl rfl) rfl rfl ?_
    refine WL.val (run_load1 Try.isAgg45 rfl (h.cellB rfl)) rfl rfl ?_
    refine WL.val (run_lenSlice Try.underlying45 rfl) rfl rfl ?_
    refine WL.val (run_lss rfl rfl) rfl rfl ?_
    refine WL.nil ?_
    refine W.condIf rfl (fun c5 => ?_) (fun c5 => ?_)
    · skip
      refine W.skip ?_
      refine W.seq ?_
      refine W.block ?_
      refine W.seq ?_
      have hkl : k < m.l.length := by omega
      obtain ⟨bq, oq, rfl⟩ := Own.addr h.p2 (by omega)
      obtain ⟨⟨pf, pt, pbs⟩, hmk⟩ : ∃ p, m.l[k]? = some p := ⟨m.l[k], by simp⟩
      refine W.region ?_
      refine WL.val run_move rfl rfl ?_
      refine WL.val (run_nilCheck rfl) rfl rfl ?_
      refine WL.val (run_fieldAddr 1 Try.underlying47 rfl Try.sizeOf45 rfl rfl) rfl rfl ?_
      refine WL.val (run_load1 Try.isAgg45 rfl (h.cellB rfl)) rfl rfl ?_
      refine WL.val run_move rfl rfl ?_
      refine WL.val (run_indexAddr Try.underlying45 Try.sizeOf50 rfl rfl (by omega) (by omega)) rfl rfl ?_
      refine WL.val (run_fieldAddr 1 Try.underlying50 rfl Try.sizeOf3 rfl rfl) rfl rfl ?_
      refine WL.val (run_load1 Try.isAgg3 rfl (Cells.elem (h.cellsO (v := .slice (some ⟨bq, oq, none⟩) m.l.length c)) (i := k) (vs := [.int .i64 pf, .int .i64 pt, .string ⟨pbs.toArray⟩]) (by omega) (drop_flatMap rk 3 rk_length m.l _ _ hmk) 1 _ rfl)) rfl rfl ?_
      refine WL.val run_move rfl rfl ?_
      refine WL.val (run_eql rfl rfl) rfl rfl ?_
      refine WL.nil ?_
      refine W.condIf rfl (fun c10 => ?_) (fun c10 => ?_)
      · skip
        refine W.seq ?_
        have ht : takeI m to = k := takeI_some hmk c10 hno
        have h := closeR (a := some ⟨bq, oq, none⟩) (c := c) hln h.q2
        refine W.region ?_
        refine WL.val run_move rfl rfl ?_
        refine WL.val run_move rfl rfl ?_
        refine WL.eff (eff_call Try.call29 (rout_ok h)) rfl rfl ?_
        rintro _ w ⟨rfl, h⟩
        rcases hat : at? m k with _ | p
        rotate_left
        · skip
          refine WL.val (run_extract rfl rfl) rfl rfl ?_
          refine WL.val (run_extract rfl rfl) rfl rfl ?_
          refine WL.eff (eff_storeN (vs := [.int .i64 _, .int .i64 _, .string _]) h Try.sizeOf50 rfl rfl rfl rfl rfl (fun k _ _ => free0 k)) rfl rfl ?_
          rintro _ w h
          try simp only [splice, List.take_zero, List.take_succ_cons, List.take_nil, List.drop_succ_cons, List.drop_zero, List.drop_nil, List.nil_append, List.cons_append, List.append_nil, List.length_cons, List.length_nil, Nat.zero_add, Nat.reduceAdd] at h
          refine WL.val run_assign rfl rfl ?_
          refine WL.nil ?_
          refine W.ret ?_
          refine bodyQ.rctB (vs := [.int .i64 _, .int .i64 _, .string _]) (v2 := .bool _) h Try.results31 Try.isAgg50 Try.sizeOf50 rfl rfl rfl rfl ?_
          -- path LTTT
          rw [ht, hat]
          exact ⟨rfl, h.to⟩
        · skip
          refine WL.val (run_extract rfl rfl) rfl rfl ?_
          refine WL.val (run_extract rfl rfl) rfl rfl ?_
          refine WL.eff (eff_storeN (vs := [.int .i64 _, .int .i64 _, .string _]) h Try.sizeOf50 rfl rfl rfl rfl rfl (fun k _ _ => free0 k)) rfl rfl ?_
          rintro _ w h
          try simp only [splice, List.take_zero, List.take_succ_cons, List.take_nil, List.drop_succ_cons, List.drop_zero, List.drop_nil, List.nil_append, List.cons_append, List.append_nil, List.length_cons, List.length_nil, Nat.zero_add, Nat.reduceAdd] at h
          refine WL.val run_assign rfl rfl ?_
          refine WL.nil ?_
          refine W.ret ?_
          refine bodyQ.rctB (vs := [.int .i64 _, .int .i64 _, .string _]) (v2 := .bool _) h Try.results31 Try.isAgg50 Try.sizeOf50 rfl rfl rfl rfl ?_
          -- path LTTF
          rw [ht, hat]
          exact ⟨rfl, h.to⟩
      · skip
        refine W.skip ?_
        refine W.region ?_
        refine WL.val run_move rfl rfl ?_
        refine WL.val (run_add rfl rfl (by omega) (by omega)) rfl rfl ?_
        refine WL.val run_assign rfl rfl ?_
        refine WL.nil ?_
        -- round, path LTF
        exact ⟨k + 1, ⟨_, mkE_of ⟨rfl, rfl, rfl, rfl, trivial⟩, by omega, (by
          intro j p hj hp
          by_cases hjk : j = k
          · subst hjk; rw [hmk] at hp; cases hp; exact c10
          · exact hno j p (by omega) hp), h⟩, by show m.l.length - (k + 1) < m.l.length - k; omega⟩
    · skip
      refine W.exit ?_
      refine W.seq ?_
      refine W.region ?_
      refine WL.val (run_buildS (pl := [(0, 1), (1, 1), (2, 1)]) (out := [.int .i64 _, .int .i64 _, .string _]) Try.underlying50 Try.zeroValue50 (fun w => by kernel_rfl) rfl (trivial) rfl) rfl rfl ?_
      refine WL.eff (eff_storeN (vs := [.int .i64 _, .int .i64 _, .string _]) h Try.sizeOf50 rfl rfl rfl rfl rfl (fun k _ _ => free0 k)) rfl rfl ?_
      rintro _ w h
      try simp only [splice, List.take_zero, List.take_succ_cons, List.take_nil, List.drop_succ_cons, List.drop_zero, List.drop_nil, List.nil_append, List.cons_append, List.append_nil, List.length_cons, List.length_nil, Nat.zero_add, Nat.reduceAdd] at h
      refine WL.val run_assign rfl rfl ?_
      refine WL.nil ?_
      refine W.ret ?_
      refine bodyQ.rctB (vs := [.int .i64 _, .int .i64 _, .string _]) (v2 := .bool _) h Try.results31 Try.isAgg50 Try.sizeOf50 rfl rfl rfl rfl ?_
      -- path LF
      have ht : takeI m to = -1 := takeI_none fun j p hp => hno j p (by have := (List.getElem?_eq_some_iff.1 hp).1; omega) hp
      rw [ht, at?_none (by omega), out_none (at?_none (by omega))]
      exact ⟨rfl, closeR (a := a) (c := c) hln h.to⟩

end Go.Proofs.Ytiejlelkmklgcaa
