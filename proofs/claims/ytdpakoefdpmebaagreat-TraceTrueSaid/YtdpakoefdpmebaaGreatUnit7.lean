/-
  A unit: a new one, the same, apart: the contracts. Lines of walks printed by a program of the prover's.
-/
import Derived.Test.YtdpakoefdpmebaaGreatUnit6
namespace Go.Proofs.YtdpakoefdpmebaaGreat
open Go Go.Sl Go.Sl.BitM Go.Sl.SpM Go.Sl.RsM Go.Sl.ByM Go.Sl.UnM
set_option linter.unusedVariables false
set_option linter.unusedSimpArgs false
set_option maxHeartbeats 1000000
set_option maxRecDepth 8000
variable {W0 w : World} {L F : List HProp}

theorem usame_ok {s1 k1 c1 i1 : Int} {d1 : List UInt8} {a1 : Option Addr} {x1 : Nat} {s2 k2 c2 i2 : Int} {d2 : List UInt8} {a2 : Option Addr} {x2 : Nat} (h : On W0 L w) (C1 : Gives L (Bytes (.slice a1 d1.length x1) d1)) (C2 : Gives L (Bytes (.slice a2 d2.length x2) d2)) : Calls Tryz.prog 28 #[(⟨s1, k1, c1, d1, i1⟩ : Rp).val (.slice a1 d1.length x1), (⟨s2, k2, c2, d2, i2⟩ : Rp).val (.slice a2 d2.length x2)] w (Ret fun v w' => v = .bool (decide ((⟨s1, k1, c1, d1, i1⟩ : Rp) = (⟨s2, k2, c2, d2, i2⟩ : Rp))) ∧ On W0 L w') := by
  refine enter Tryz.func28 rfl Tryz.ntmps28 rfl (W.seq (W.region (WL.eff (eff_box (v := .agg _) (l := (⟨s1, k1, c1, d1, i1⟩ : Rp).cells (.slice a1 d1.length x1)) h rfl rfl) rfl rfl ?_)))
  rintro _ w ⟨b2, rfl, h⟩
  have h : On W0 (blk b2 [.int .i64 s1, .int .i64 k1, .int .i64 c1, .slice a1 d1.length x1, .int .i64 i1] 36 :: _) w := h
  refine WL.eff (eff_box (v := .agg _) (l := (⟨s2, k2, c2, d2, i2⟩ : Rp).cells (.slice a2 d2.length x2)) h rfl rfl) rfl rfl ?_
  rintro _ w ⟨b3, rfl, h⟩
  have h : On W0 (blk b3 [.int .i64 s2, .int .i64 k2, .int .i64 c2, .slice a2 d2.length x2, .int .i64 i2] 36 :: _) w := h
  refine WL.val run_assign rfl rfl (WL.nil (W.seq (W.region (WL.val (run_fieldAddr 0 Tryz.underlying36 rfl Tryz.sizeOf3 rfl rfl) rfl rfl (WL.val (run_load1 Tryz.isAgg3 rfl (h.cellB rfl)) rfl rfl (WL.val (run_fieldAddr 0 Tryz.underlying36 rfl Tryz.sizeOf3 rfl rfl) rfl rfl (WL.val (run_load1 Tryz.isAgg3 rfl (h.cellB rfl)) rfl rfl ?_)))))))
  refine WL.dec (run_eql rfl rfl) rfl rfl (fun c9 => ?_) (fun c9 => ?_)
  ·
   refine WL.val run_move rfl rfl (WL.val (run_fieldAddr 1 Tryz.underlying36 rfl Tryz.sizeOf3 rfl rfl) rfl rfl (WL.val (run_load1 Tryz.isAgg3 rfl (h.cellB rfl)) rfl rfl (WL.val (run_fieldAddr 1 Tryz.underlying36 rfl Tryz.sizeOf3 rfl rfl) rfl rfl (WL.val (run_load1 Tryz.isAgg3 rfl (h.cellB rfl)) rfl rfl ?_))))
   refine WL.dec (run_eql rfl rfl) rfl rfl (fun c15 => ?_) (fun c15 => ?_)
   ·
    refine WL.val (run_pickT rfl) rfl rfl (WL.val run_move rfl rfl (WL.val (run_fieldAddr 2 Tryz.underlying36 rfl Tryz.sizeOf3 rfl rfl) rfl rfl (WL.val (run_load1 Tryz.isAgg3 rfl (h.cellB rfl)) rfl rfl (WL.val (run_fieldAddr 2 Tryz.underlying36 rfl Tryz.sizeOf3 rfl rfl) rfl rfl (WL.val (run_load1 Tryz.isAgg3 rfl (h.cellB rfl)) rfl rfl ?_)))))
    refine WL.dec (run_eql rfl rfl) rfl rfl (fun c22 => ?_) (fun c22 => ?_)
    ·
     refine WL.val (run_pickT rfl) rfl rfl (WL.val run_move rfl rfl (WL.val (run_fieldAddr 4 Tryz.underlying36 rfl Tryz.sizeOf3 rfl rfl) rfl rfl (WL.val (run_load1 Tryz.isAgg3 rfl (h.cellB rfl)) rfl rfl (WL.val (run_fieldAddr 4 Tryz.underlying36 rfl Tryz.sizeOf3 rfl rfl) rfl rfl (WL.val (run_load1 Tryz.isAgg3 rfl (h.cellB rfl)) rfl rfl ?_)))))
     refine WL.dec (run_eql rfl rfl) rfl rfl (fun c29 => ?_) (fun c29 => ?_)
     ·
      refine WL.val (run_pickT rfl) rfl rfl (WL.val run_move rfl rfl (WL.val (run_fieldAddr 3 Tryz.underlying36 rfl Tryz.sizeOf22 rfl rfl) rfl rfl (WL.val (run_load1 Tryz.isAgg22 rfl (h.cellB rfl)) rfl rfl (WL.val (run_fieldAddr 3 Tryz.underlying36 rfl Tryz.sizeOf22 rfl rfl) rfl rfl (WL.val (run_load1 Tryz.isAgg22 rfl (h.cellB rfl)) rfl rfl (WL.eff (eff_call Tryz.call34 (bequal_ok (bs := d1) (cs := d2) h (Gives.to C1) (Gives.to C2))) rfl rfl ?_))))))
      rintro _ w ⟨rfl, h⟩
      refine WL.val (run_pickT rfl) rfl rfl (WL.val run_assign rfl rfl (WL.nil (W.ret (bodyQ.r1 (v := .bool _) Tryz.results28 rfl ?_))))
      exact ⟨congrArg Value.bool (decide_eq_decide.2 ⟨fun e => by rw [c9, c15, c22, c29, e], fun e => by cases e; rfl⟩), h.to⟩
     refine WL.val (run_pickT rfl) rfl rfl (WL.val run_move rfl rfl (WL.skip rfl rfl (WL.skip rfl rfl (WL.skip rfl rfl (WL.skip rfl rfl (WL.skip rfl rfl (WL.val (run_pickF rfl) rfl rfl ?_)))))))
     refine WL.val run_assign rfl rfl (WL.nil (W.ret (bodyQ.r1 (v := .bool _) Tryz.results28 rfl ?_)))
     exact ⟨congrArg Value.bool (decide_eq_false (by intro e; cases e; exact c29 rfl)).symm, h.to⟩
    refine WL.val (run_pickT rfl) rfl rfl (WL.val run_move rfl rfl (WL.skip rfl rfl (WL.skip rfl rfl (WL.skip rfl rfl (WL.skip rfl rfl (WL.skip rfl rfl (WL.val (run_pickF rfl) rfl rfl ?_)))))))
    refine WL.val run_move rfl rfl (WL.skip rfl rfl (WL.skip rfl rfl (WL.skip rfl rfl (WL.skip rfl rfl (WL.skip rfl rfl (WL.val (run_pickF rfl) rfl rfl (WL.val run_assign rfl rfl ?_)))))))
    refine WL.nil (W.ret (bodyQ.r1 (v := .bool _) Tryz.results28 rfl ?_))
    exact ⟨congrArg Value.bool (decide_eq_false (by intro e; cases e; exact c22 rfl)).symm, h.to⟩
   refine WL.val (run_pickT rfl) rfl rfl (WL.val run_move rfl rfl (WL.skip rfl rfl (WL.skip rfl rfl (WL.skip rfl rfl (WL.skip rfl rfl (WL.skip rfl rfl (WL.val (run_pickF rfl) rfl rfl ?_)))))))
   refine WL.val run_move rfl rfl (WL.skip rfl rfl (WL.skip rfl rfl (WL.skip rfl rfl (WL.skip rfl rfl (WL.skip rfl rfl (WL.val (run_pickF rfl) rfl rfl (WL.val run_move rfl rfl ?_)))))))
   refine WL.skip rfl rfl (WL.skip rfl rfl (WL.skip rfl rfl (WL.skip rfl rfl (WL.skip rfl rfl (WL.val (run_pickF rfl) rfl rfl (WL.val run_assign rfl rfl (WL.nil ?_)))))))
   refine W.ret (bodyQ.r1 (v := .bool _) Tryz.results28 rfl ?_)
   exact ⟨congrArg Value.bool (decide_eq_false (by intro e; cases e; exact c15 rfl)).symm, h.to⟩
  refine WL.val run_move rfl rfl (WL.skip rfl rfl (WL.skip rfl rfl (WL.skip rfl rfl (WL.skip rfl rfl (WL.skip rfl rfl (WL.val (run_pickF rfl) rfl rfl (WL.val run_move rfl rfl ?_)))))))
  refine WL.skip rfl rfl (WL.skip rfl rfl (WL.skip rfl rfl (WL.skip rfl rfl (WL.skip rfl rfl (WL.val (run_pickF rfl) rfl rfl (WL.val run_move rfl rfl (WL.skip rfl rfl ?_)))))))
  refine WL.skip rfl rfl (WL.skip rfl rfl (WL.skip rfl rfl (WL.skip rfl rfl (WL.val (run_pickF rfl) rfl rfl (WL.val run_move rfl rfl (WL.skip rfl rfl (WL.skip rfl rfl ?_)))))))
  refine WL.skip rfl rfl (WL.skip rfl rfl (WL.skip rfl rfl (WL.val (run_pickF rfl) rfl rfl (WL.val run_assign rfl rfl (WL.nil (W.ret (bodyQ.r1 (v := .bool _) Tryz.results28 rfl ?_)))))))
  exact ⟨congrArg Value.bool (decide_eq_false (by intro e; cases e; exact c9 rfl)).symm, h.to⟩

theorem usameR_ok {s1 k1 c1 i1 : Int} {d1 : List UInt8} {a1 : Option Addr} {x1 : Nat} {s2 k2 c2 i2 : Int} {d2 : List UInt8} {a2 : Option Addr} {x2 : Nat} (h : On W0 L w) (C1 : Gives L (Bytes (.slice a1 d1.length x1) d1)) (C2 : Gives L (Bytes (.slice a2 d2.length x2) d2)) : Calls Tryz.prog 16 #[(⟨s1, k1, c1, d1, i1⟩ : Rp).val (.slice a1 d1.length x1), (⟨s2, k2, c2, d2, i2⟩ : Rp).val (.slice a2 d2.length x2)] w (Ret fun v w' => v = .bool (decide ((⟨s1, k1, c1, d1, i1⟩ : Rp) = (⟨s2, k2, c2, d2, i2⟩ : Rp))) ∧ On W0 L w') := by
  refine enter Tryz.func16 rfl Tryz.ntmps16 rfl (W.seq (W.region (WL.eff (eff_box (v := .agg _) (l := (⟨s1, k1, c1, d1, i1⟩ : Rp).cells (.slice a1 d1.length x1)) h rfl rfl) rfl rfl ?_)))
  rintro _ w ⟨b2, rfl, h⟩
  have h : On W0 (blk b2 [.int .i64 s1, .int .i64 k1, .int .i64 c1, .slice a1 d1.length x1, .int .i64 i1] 36 :: _) w := h
  refine WL.eff (eff_box (v := .agg _) (l := (⟨s2, k2, c2, d2, i2⟩ : Rp).cells (.slice a2 d2.length x2)) h rfl rfl) rfl rfl ?_
  rintro _ w ⟨b3, rfl, h⟩
  have h : On W0 (blk b3 [.int .i64 s2, .int .i64 k2, .int .i64 c2, .slice a2 d2.length x2, .int .i64 i2] 36 :: _) w := h
  refine WL.val run_assign rfl rfl (WL.nil (W.seq (W.region (WL.val (run_fieldAddr 0 Tryz.underlying36 rfl Tryz.sizeOf3 rfl rfl) rfl rfl (WL.val (run_load1 Tryz.isAgg3 rfl (h.cellB rfl)) rfl rfl (WL.val (run_fieldAddr 0 Tryz.underlying36 rfl Tryz.sizeOf3 rfl rfl) rfl rfl (WL.val (run_load1 Tryz.isAgg3 rfl (h.cellB rfl)) rfl rfl ?_)))))))
  refine WL.dec (run_eql rfl rfl) rfl rfl (fun c9 => ?_) (fun c9 => ?_)
  ·
   refine WL.val run_move rfl rfl (WL.val (run_fieldAddr 1 Tryz.underlying36 rfl Tryz.sizeOf3 rfl rfl) rfl rfl (WL.val (run_load1 Tryz.isAgg3 rfl (h.cellB rfl)) rfl rfl (WL.val (run_fieldAddr 1 Tryz.underlying36 rfl Tryz.sizeOf3 rfl rfl) rfl rfl (WL.val (run_load1 Tryz.isAgg3 rfl (h.cellB rfl)) rfl rfl ?_))))
   refine WL.dec (run_eql rfl rfl) rfl rfl (fun c15 => ?_) (fun c15 => ?_)
   ·
    refine WL.val (run_pickT rfl) rfl rfl (WL.val run_move rfl rfl (WL.val (run_fieldAddr 2 Tryz.underlying36 rfl Tryz.sizeOf3 rfl rfl) rfl rfl (WL.val (run_load1 Tryz.isAgg3 rfl (h.cellB rfl)) rfl rfl (WL.val (run_fieldAddr 2 Tryz.underlying36 rfl Tryz.sizeOf3 rfl rfl) rfl rfl (WL.val (run_load1 Tryz.isAgg3 rfl (h.cellB rfl)) rfl rfl ?_)))))
    refine WL.dec (run_eql rfl rfl) rfl rfl (fun c22 => ?_) (fun c22 => ?_)
    ·
     refine WL.val (run_pickT rfl) rfl rfl (WL.val run_move rfl rfl (WL.val (run_fieldAddr 4 Tryz.underlying36 rfl Tryz.sizeOf3 rfl rfl) rfl rfl (WL.val (run_load1 Tryz.isAgg3 rfl (h.cellB rfl)) rfl rfl (WL.val (run_fieldAddr 4 Tryz.underlying36 rfl Tryz.sizeOf3 rfl rfl) rfl rfl (WL.val (run_load1 Tryz.isAgg3 rfl (h.cellB rfl)) rfl rfl ?_)))))
     refine WL.dec (run_eql rfl rfl) rfl rfl (fun c29 => ?_) (fun c29 => ?_)
     ·
      refine WL.val (run_pickT rfl) rfl rfl (WL.val run_move rfl rfl (WL.val (run_fieldAddr 3 Tryz.underlying36 rfl Tryz.sizeOf22 rfl rfl) rfl rfl (WL.val (run_load1 Tryz.isAgg22 rfl (h.cellB rfl)) rfl rfl (WL.val (run_bytesStr Tryz.underlying22 Tryz.underlying5 Tryz.underlying9 rfl (h.readsTo C1)) rfl rfl (WL.val (run_fieldAddr 3 Tryz.underlying36 rfl Tryz.sizeOf22 rfl rfl) rfl rfl (WL.val (run_load1 Tryz.isAgg22 rfl (h.cellB rfl)) rfl rfl (WL.val (run_bytesStr Tryz.underlying22 Tryz.underlying5 Tryz.underlying9 rfl (h.readsTo C2)) rfl rfl ?_)))))))
      refine WL.val (run_eqlStr rfl rfl) rfl rfl (WL.val (run_pickT rfl) rfl rfl (WL.val run_assign rfl rfl (WL.nil (W.ret (bodyQ.r1 (v := .bool _) Tryz.results16 rfl ?_)))))
      refine ⟨congrArg Value.bool (decide_eq_decide.2 ?_), h.to⟩
      simp only [Go.ByteArray.toList_eq]
      exact ⟨fun e => by rw [c9, c15, c22, c29, e], fun e => by cases e; rfl⟩
     refine WL.val (run_pickT rfl) rfl rfl (WL.val run_move rfl rfl (WL.skip rfl rfl (WL.skip rfl rfl (WL.skip rfl rfl (WL.skip rfl rfl (WL.skip rfl rfl (WL.skip rfl rfl ?_)))))))
     refine WL.skip rfl rfl (WL.val (run_pickF rfl) rfl rfl (WL.val run_assign rfl rfl (WL.nil (W.ret (bodyQ.r1 (v := .bool _) Tryz.results16 rfl ?_)))))
     exact ⟨congrArg Value.bool (decide_eq_false (by intro e; cases e; exact c29 rfl)).symm, h.to⟩
    refine WL.val (run_pickT rfl) rfl rfl (WL.val run_move rfl rfl (WL.skip rfl rfl (WL.skip rfl rfl (WL.skip rfl rfl (WL.skip rfl rfl (WL.skip rfl rfl (WL.val (run_pickF rfl) rfl rfl ?_)))))))
    refine WL.val run_move rfl rfl (WL.skip rfl rfl (WL.skip rfl rfl (WL.skip rfl rfl (WL.skip rfl rfl (WL.skip rfl rfl (WL.skip rfl rfl (WL.skip rfl rfl ?_)))))))
    refine WL.val (run_pickF rfl) rfl rfl (WL.val run_assign rfl rfl (WL.nil (W.ret (bodyQ.r1 (v := .bool _) Tryz.results16 rfl ?_))))
    exact ⟨congrArg Value.bool (decide_eq_false (by intro e; cases e; exact c22 rfl)).symm, h.to⟩
   refine WL.val (run_pickT rfl) rfl rfl (WL.val run_move rfl rfl (WL.skip rfl rfl (WL.skip rfl rfl (WL.skip rfl rfl (WL.skip rfl rfl (WL.skip rfl rfl (WL.val (run_pickF rfl) rfl rfl ?_)))))))
   refine WL.val run_move rfl rfl (WL.skip rfl rfl (WL.skip rfl rfl (WL.skip rfl rfl (WL.skip rfl rfl (WL.skip rfl rfl (WL.val (run_pickF rfl) rfl rfl (WL.val run_move rfl rfl ?_)))))))
   refine WL.skip rfl rfl (WL.skip rfl rfl (WL.skip rfl rfl (WL.skip rfl rfl (WL.skip rfl rfl (WL.skip rfl rfl (WL.skip rfl rfl (WL.val (run_pickF rfl) rfl rfl ?_)))))))
   refine WL.val run_assign rfl rfl (WL.nil (W.ret (bodyQ.r1 (v := .bool _) Tryz.results16 rfl ?_)))
   exact ⟨congrArg Value.bool (decide_eq_false (by intro e; cases e; exact c15 rfl)).symm, h.to⟩
  refine WL.val run_move rfl rfl (WL.skip rfl rfl (WL.skip rfl rfl (WL.skip rfl rfl (WL.skip rfl rfl (WL.skip rfl rfl (WL.val (run_pickF rfl) rfl rfl (WL.val run_move rfl rfl ?_)))))))
  refine WL.skip rfl rfl (WL.skip rfl rfl (WL.skip rfl rfl (WL.skip rfl rfl (WL.skip rfl rfl (WL.val (run_pickF rfl) rfl rfl (WL.val run_move rfl rfl (WL.skip rfl rfl ?_)))))))
  refine WL.skip rfl rfl (WL.skip rfl rfl (WL.skip rfl rfl (WL.skip rfl rfl (WL.val (run_pickF rfl) rfl rfl (WL.val run_move rfl rfl (WL.skip rfl rfl (WL.skip rfl rfl ?_)))))))
  refine WL.skip rfl rfl (WL.skip rfl rfl (WL.skip rfl rfl (WL.skip rfl rfl (WL.skip rfl rfl (WL.val (run_pickF rfl) rfl rfl (WL.val run_assign rfl rfl (WL.nil ?_)))))))
  refine W.ret (bodyQ.r1 (v := .bool _) Tryz.results16 rfl ?_)
  exact ⟨congrArg Value.bool (decide_eq_false (by intro e; cases e; exact c9 rfl)).symm, h.to⟩

theorem uapart_ok {s1 k1 c1 i1 : Int} {d1 : List UInt8} {a1 : Option Addr} {x1 : Nat} (h : On W0 L w) (C1 : Gives L (Bytes (.slice a1 d1.length x1) d1)) (hd : d1.length ≤ 1000000) : Calls Tryz.prog 74 #[(⟨s1, k1, c1, d1, i1⟩ : Rp).val (.slice a1 d1.length x1)] w (Ret fun v w' => ∃ a, v = (⟨s1, k1, c1, d1, i1⟩ : Rp).val (.slice a d1.length d1.length) ∧ On W0 (OwnB (.slice a d1.length d1.length) d1 :: L) w') := by
  refine enter Tryz.func74 rfl Tryz.ntmps74 rfl (W.seq (W.region (WL.eff (eff_box (v := .agg _) (l := (⟨s1, k1, c1, d1, i1⟩ : Rp).cells (.slice a1 d1.length x1)) h rfl rfl) rfl rfl ?_)))
  rintro _ w ⟨b1, rfl, h⟩
  have h : On W0 (blk b1 [.int .i64 s1, .int .i64 k1, .int .i64 c1, .slice a1 d1.length x1, .int .i64 i1] 36 :: _) w := h
  refine WL.eff (eff_alloc h Tryz.zeroValue36 rfl) rfl rfl ?_
  rintro _ w ⟨b2, rfl, h⟩
  refine WL.nil (W.seq (W.region (WL.val (run_fieldAddr 3 Tryz.underlying36 rfl Tryz.sizeOf22 rfl rfl) rfl rfl (WL.val (run_load1 Tryz.isAgg22 rfl (h.cellB rfl)) rfl rfl (WL.eff (eff_call Tryz.call85 (clone_bytes (bs := d1) h (Gives.to C1) (by omega))) rfl rfl ?_)))))
  rintro _ w ⟨a5, c5, rfl, h⟩
  refine WL.eff (eff_call Tryz.call79 (clip_bytes h)) rfl rfl ?_
  rintro _ w ⟨rfl, h⟩
  refine WL.val (run_fieldAddr 3 Tryz.underlying36 rfl Tryz.sizeOf22 rfl rfl) rfl rfl (WL.eff (eff_store (v := .slice _ _ _) h Tryz.sizeOf22 rfl rfl rfl rfl rfl) rfl rfl ?_)
  rintro _ w h
  try simp only [Nat.zero_add, Nat.add_zero, List.set_cons_zero, List.set_cons_succ] at h
  refine WL.nil (W.seq (W.region (WL.val (run_loadB (vs := [.int .i64 _, .int .i64 _, .int .i64 _, .slice _ _ _, .int .i64 _]) h Tryz.isAgg36 Tryz.sizeOf36 rfl rfl rfl) rfl rfl (WL.eff (eff_storeW (vs := [.int .i64 _, .int .i64 _, .int .i64 _, .slice _ _ _, .int .i64 _]) h Tryz.sizeOf36 rfl rfl rfl rfl rfl) rfl rfl ?_))))
  rintro _ w h
  refine WL.nil (W.ret (bodyQ.rcB (vs := [.int .i64 _, .int .i64 _, .int .i64 _, .slice _ _ _, .int .i64 _]) h Tryz.results74 Tryz.isAgg36 Tryz.sizeOf36 rfl rfl rfl ?_))
  exact ⟨a5, rfl, h.to⟩

theorem upending_ok {bu i : Nat} {u : Un} {pool : PoolL} {ms : List Nat} (hi : i < 8) (hsm : (u.guest i).codes.length ≤ 1000000) (h : On W0 (UnP 84 146 152 bu pool ms u :: L) w) : Calls Tryz.prog 17 #[.pointer (some ⟨bu, 0, none⟩), .int .i64 (i : Int)] w (Ret fun v w' => ∃ a, v = .slice a (u.guest i).codes.length (u.guest i).codes.length ∧ On W0 (Own 1 (.slice a (u.guest i).codes.length (u.guest i).codes.length) (u.guest i).codes.length (cV (u.guest i).codes) :: UnP 84 146 152 bu pool ms u :: L) w') := by
  refine enter Tryz.func17 rfl Tryz.ntmps17 rfl ?_
  have hmx := maxLen_eq
  have ob_ := openU h
  obtain ⟨bs, bt, gs, hm, hl, h⟩ := ob_
  have ob_ := row_of hm hl hi
  obtain ⟨g, hg, hgu⟩ := ob_
  have h := Big.open hg (h.fetch (Big (GOwn pool) gs))
  have ob_ := openG h
  obtain ⟨hok, h⟩ := ob_
  have ob1_ := Own.bounds h
  obtain ⟨hb1, hb2⟩ := ob1_
  have hig : i < gs.length := by have := (List.getElem?_eq_some_iff.1 hg).1; omega
  rw [← hgu] at hsm
  rw [← hgu]
  refine W.seq (W.region (WL.val run_assign rfl rfl (WL.nil (W.seq (W.seq (W.region (WL.val run_move rfl rfl ?_)))))))
  refine WL.eff (eff_call Tryz.call35 (uhost_ok h)) rfl rfl ?_
  rintro _ w ⟨hv, h⟩
  rw [host_nat hi] at hv
  subst hv
  refine WL.val (run_not rfl) rfl rfl (WL.nil (W.condF rfl (W.skip (W.seq (W.region (WL.val run_move rfl rfl (WL.val run_move rfl rfl ?_)))))))
  refine WL.val (run_nilCheck rfl) rfl rfl (WL.val (run_fieldAddr 2 Tryz.underlying84 rfl Tryz.sizeOf82 rfl rfl) rfl rfl (WL.val (run_indexAddrArr Tryz.underlying82 Tryz.sizeOf81 rfl rfl (by omega) (by omega)) rfl rfl (WL.val (run_fieldAddr 0 Tryz.underlying81 rfl Tryz.sizeOf43 rfl rfl) rfl rfl (WL.val (run_load1 Tryz.isAgg43 rfl (h.cellB (ucell (bs := bs) (bt := bt) hg (k := 0) (by decide) rfl))) rfl rfl (WL.eff (eff_call Tryz.call45 (clone_ints (l := g.s.codes) h (Gives.ownO (v := .slice g.a g.s.codes.length g.c)) (by omega))) rfl rfl ?_)))))
  rintro _ w ⟨a15, c15, rfl, h⟩
  refine WL.eff (eff_call Tryz.call44 (clip_ints h)) rfl rfl ?_
  rintro _ w ⟨rfl, h⟩
  refine WL.val run_assign rfl rfl (WL.nil (W.ret (bodyQ.r1 (v := .slice _ _ _) Tryz.results17 rfl ?_)))
  have h := Big.close (y := g) hig (closeG (g := g) hok (((h.fetch (Big (GOwn pool) (gs.eraseIdx i))).fetch (MapC g.mb .u64 g.kvs g.ck)).fetch (CodesO g)))
  rw [set_same hg] at h
  have h := closeU (bu := bu) (u := u) hm hl ((((h.fetch (Big (GOwn pool) gs)).fetch (blk bt u.t.cells 152)).fetch (SpP 146 bs u.s)).fetch (blk bu (ucells bs bt gs) 84))
  exact ⟨a15, rfl, (h.fetch (Own 1 (.slice a15 g.s.codes.length g.s.codes.length) g.s.codes.length (cV g.s.codes))).to⟩

theorem unewR_ok {n : Int} {pool : PoolL} (h : On W0 L w) : Calls Tryz.prog 15 #[.int .i64 n] w (Ret fun v w' => (∃ N : Nat, n = N ∧ 1 ≤ N ∧ N ≤ 1024 ∧ ∃ (bu bs bt : Nat) (mbs : List Nat), mbs.length = 8 ∧ v = .tuple #[.pointer (some ⟨bu, 0, none⟩), .int .i64 0] ∧ On W0 (blk bu (ucells bs bt (mbs.map zG)) 84 :: SpP 146 bs (newS N) :: blk bt newT.cells 152 :: Big (GOwn pool) (mbs.map zG) :: L) w') ∨ (¬ (1 ≤ n ∧ n ≤ 1024) ∧ v = .tuple #[.pointer none, .int .i64 1] ∧ On W0 L w')) := by
  refine enter Tryz.func15 rfl Tryz.ntmps15 rfl (W.seq (W.region (WL.val run_assign rfl rfl (WL.val run_assign rfl rfl (WL.nil (W.seq (W.region ?_)))))))
  refine WL.val run_move rfl rfl (WL.eff (eff_call Tryz.call42 (snew_ok (n := n) h)) rfl rfl ?_)
  rintro _ w hv
  rcases hv with ⟨N, rfl, h1, h2b, bs, rfl, h⟩ | ⟨hno, rfl, h⟩
  ·
   refine WL.val run_move rfl rfl (WL.val (run_extract rfl rfl) rfl rfl (WL.val (run_extract rfl rfl) rfl rfl (WL.val run_assign rfl rfl (WL.val run_assign rfl rfl (WL.nil (W.seq (W.seq ?_)))))))
   refine W.region (WL.val run_move rfl rfl (WL.val (run_neqF rfl rfl (by decide)) rfl rfl (WL.nil (W.condF rfl (W.skip (W.seq (W.region ?_)))))))
   refine WL.val run_move rfl rfl (WL.eff (eff_call Tryz.call43 (rnew_ok h)) rfl rfl ?_)
   rintro _ w ⟨bt, rfl, h⟩
   refine WL.val (run_buildS (pl := [(0, 1), (1, 1), (2, 24)]) (out := [.pointer _, .pointer _, .slice _ _ _, .int .u64 _, .map _, .slice _ _ _, .int .u64 _, .map _, .slice _ _ _, .int .u64 _, .map _, .slice _ _ _, .int .u64 _, .map _, .slice _ _ _, .int .u64 _, .map _, .slice _ _ _, .int .u64 _, .map _, .slice _ _ _, .int .u64 _, .map _, .slice _ _ _, .int .u64 _, .map _]) Tryz.underlying84 Tryz.zeroValue84 (fun w => by kernel_rfl) rfl (⟨⟨_, _, rfl, rfl, by decide⟩, ⟨⟨_, _, rfl, rfl, by decide⟩, trivial⟩⟩) rfl) rfl rfl ?_
   refine WL.eff (eff_box (v := .agg _) (l := [.pointer _, .pointer _, .slice _ _ _, .int .u64 _, .map _, .slice _ _ _, .int .u64 _, .map _, .slice _ _ _, .int .u64 _, .map _, .slice _ _ _, .int .u64 _, .map _, .slice _ _ _, .int .u64 _, .map _, .slice _ _ _, .int .u64 _, .map _, .slice _ _ _, .int .u64 _, .map _, .slice _ _ _, .int .u64 _, .map _]) h rfl rfl) rfl rfl ?_
   rintro _ w ⟨b19, rfl, h⟩
   refine WL.val run_assign rfl rfl (WL.nil (W.seq (W.seq (W.region (WL.val run_move rfl rfl (WL.nil (W.block ?_)))))))
   refine W.loop (fun (k : Nat) env w => k ≤ 8 ∧ ∃ (j : Env) (mbs : List Nat), mbs.length = k ∧ env = mkE j [(6, .pointer (some ⟨b19, 0, none⟩)), (20, .int .i64 (k : Int))] ∧ On W0 (blk b19 (ncells bs bt (mbs.map zG) (8 - k)) 84 :: SpP 146 bs (newS N) :: blk bt newT.cells 152 :: Big (GOwn pool) (mbs.map zG) :: L) w) (fun k => 8 - k) (0) ?_ ?_
   · have h : On W0 (Big (GOwn pool) (([] : List Nat).map zG) :: blk b19 (ncells bs bt (([] : List Nat).map zG) (8 - 0)) 84 :: _) w := Big.nil h
     exact ⟨Nat.zero_le _, _, [], rfl, mkE_of ⟨rfl, rfl, trivial⟩, h.to⟩
   rintro k env w ⟨hk8, j, mbs, hml, rfl, h⟩
   have hgl : (mbs.map zG).length = k := by rw [List.length_map, hml]
   refine W.seq (W.region (WL.val (run_lss rfl rfl) rfl rfl (WL.nil (W.seq ?_))))
   refine W.condIf rfl (fun c12 => ?_) (fun c12 => ?_)
   ·
    refine W.skip (W.seq (W.block (W.seq ?_)))
    have h8k : 8 - k = 8 - (k + 1) + 1 := by omega
    rw [h8k] at h
    refine W.region (WL.val run_move rfl rfl (WL.val run_assign rfl rfl (WL.nil (W.region (WL.val run_move rfl rfl (WL.val run_move rfl rfl (WL.eff (eff_makeMap (kd := .u64) h) rfl rfl ?_)))))))
    rintro _ w ⟨b25, rfl, h⟩
    refine WL.val (run_nilCheck rfl) rfl rfl (WL.val (run_fieldAddr 2 Tryz.underlying84 rfl Tryz.sizeOf82 rfl rfl) rfl rfl (WL.val (run_indexAddrArr Tryz.underlying82 Tryz.sizeOf81 rfl rfl (by omega) (by omega)) rfl rfl (WL.val (run_fieldAddr 2 Tryz.underlying81 rfl Tryz.sizeOf79 rfl rfl) rfl rfl (WL.eff (eff_store (v := .map (some b25)) h Tryz.sizeOf79 rfl rfl rfl (nlt (bs := bs) (bt := bt) hgl) (free0 _)) rfl rfl ?_))))
    rintro _ w h
    rw [nset (bs := bs) (bt := bt) hgl] at h
    have h := zG_own (pool := pool) (h.fetch (MapC b25 .u64 [] 0))
    have h := Big.push ((h.fetch (Big (GOwn pool) (mbs.map zG))).fetch (GOwn pool (zG b25)))
    rw [show mbs.map zG ++ [zG b25] = (mbs ++ [b25]).map zG by rw [List.map_append]; rfl] at h
    refine WL.nil (W.region (WL.val (run_incN rfl rfl (by omega)) rfl rfl (WL.val run_move rfl rfl (WL.nil ?_))))
    exact ⟨k + 1, ⟨by omega, _, mbs ++ [b25], by rw [List.length_append, hml]; rfl, mkE_of ⟨rfl, rfl, trivial⟩, h.to⟩, by show 8 - (k + 1) < 8 - k; omega⟩
   refine W.exit (W.seq (W.region (WL.val run_move rfl rfl (WL.val run_assign rfl rfl (WL.val run_assign rfl rfl (WL.nil (W.ret ?_)))))))
   refine bodyQ.r2 (v1 := .pointer _) (v2 := .int .i64 _) Tryz.results15 rfl rfl ?_
   have ob_ : k = 8 := by omega
   obtain rfl := ob_
   have h2 : On W0 (blk b19 (ucells bs bt (mbs.map zG)) 84 :: SpP 146 bs (newS N) :: blk bt newT.cells 152 :: Big (GOwn pool) (mbs.map zG) :: L) w := by
     have e : ncells bs bt (mbs.map zG) (8 - 8) = ucells bs bt (mbs.map zG) := by show _ :: _ :: ((mbs.map zG).flatMap GX.row ++ []) = _; rw [List.append_nil]
     rw [e] at h
     exact h
   exact .inl ⟨N, rfl, h1, h2b, b19, bs, bt, mbs, hml, rfl, h2⟩
  refine WL.val run_move rfl rfl (WL.val (run_extract rfl rfl) rfl rfl (WL.val (run_extract rfl rfl) rfl rfl (WL.val run_assign rfl rfl (WL.val run_assign rfl rfl (WL.nil (W.seq (W.seq ?_)))))))
  refine W.region (WL.val run_move rfl rfl (WL.val (run_neqT rfl rfl (by decide)) rfl rfl (WL.nil (W.condT rfl (W.seq (W.region (WL.val run_move rfl rfl ?_)))))))
  refine WL.val run_assign rfl rfl (WL.val run_assign rfl rfl (WL.nil (W.ret (bodyQ.r2 (v1 := .pointer _) (v2 := .int .i64 _) Tryz.results15 rfl rfl ?_))))
  exact .inr ⟨hno, rfl, h⟩

theorem unew_ok {n : Int} {pool : PoolL} (h : On W0 L w) : Calls Tryz.prog 15 #[.int .i64 n] w (Ret fun v w' => (∃ N : Nat, n = N ∧ 1 ≤ N ∧ N ≤ 1024 ∧ ∃ bu ms, v = .tuple #[.pointer (some ⟨bu, 0, none⟩), .int .i64 0] ∧ On W0 (UnP 84 146 152 bu pool ms (newU N) :: L) w') ∨ (¬ (1 ≤ n ∧ n ≤ 1024) ∧ v = .tuple #[.pointer none, .int .i64 1] ∧ On W0 L w')) := by
  skip
  exact (unewR_ok (pool := pool) h).mono fun e w' he => by
    obtain ⟨v, he, hv⟩ := he
    refine ⟨v, he, ?_⟩
    rcases hv with ⟨N, hN, h1, h2, bu, bs, bt, mbs, hml, hv, h⟩ | hv
    · refine .inl ⟨N, hN, h1, h2, bu, _, hv, closeU (u := newU N) ⟨?_, rfl⟩ rfl h⟩
      rw [List.map_map]
      show mbs.map (fun _ => (⟨[], 0, []⟩ : Gs)) = List.replicate 8 ⟨[], 0, []⟩
      rw [List.map_const', hml]
    · exact .inr hv

end Go.Proofs.YtdpakoefdpmebaaGreat
