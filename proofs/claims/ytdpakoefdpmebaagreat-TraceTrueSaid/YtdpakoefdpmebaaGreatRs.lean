/-
  The contracts of reservations. Lines of walks printed by a program of the prover's.
-/
import Derived.Test.YtdpakoefdpmebaaGreatResv3
import Derived.Test.YtdpakoefdpmebaaGreatUnitModel
import Derived.Test.YtdpakoefdpmebaaGreatResvModel
namespace Go.Proofs.YtdpakoefdpmebaaGreat
open Go Go.Sl Go.Sl.RsM Go.Sl.ByM Go.Sl.UnM
set_option linter.unusedVariables false
set_option linter.unusedSimpArgs false
set_option maxHeartbeats 1000000
set_option maxRecDepth 8000
variable {W0 w : World} {L F : List HProp}

theorem umay_ok {b i : Nat} {t : Tb} {key : Int} (hi : i < 8) (h : On W0 (blk b t.cells 152 :: L) w) : Calls Tryz.prog 142 #[.pointer (some ⟨b, 0, none⟩), .int .i64 (i : Int), .int .u64 key] w (Ret fun v w' => ((okKB t i key = true ∧ v = .tuple #[rep 0 0 0, .bool true]) ∨ (okKB t i key = false ∧ v = .tuple #[rep 24 0 0, .bool false])) ∧ On W0 (blk b t.cells 152 :: L) w') := by
  refine enter Tryz.func142 rfl Tryz.ntmps142 rfl (W.seq (W.region (WL.eff (eff_alloc h Tryz.zeroValue36 rfl) rfl rfl ?_)))
  rintro _ w ⟨b6, rfl, h⟩
  refine WL.val run_assign rfl rfl (WL.nil (W.seq (W.block (W.seq (W.region (WL.val run_move rfl rfl (WL.eff (eff_call Tryz.call89 (host_ok h)) rfl rfl ?_)))))))
  rintro _ w ⟨hv, h⟩
  rw [hostB_iff.2 ⟨by omega, by omega⟩] at hv
  subst hv
  refine WL.val (run_not rfl) rfl rfl (WL.val run_assign rfl rfl (WL.nil (W.condF rfl (W.seq (W.region (WL.val run_move rfl rfl (WL.val run_move rfl rfl ?_)))))))
  refine WL.val (run_nilCheck rfl) rfl rfl (WL.val (run_fieldAddr 0 Tryz.underlying152 rfl Tryz.sizeOf102 rfl rfl) rfl rfl (WL.val (run_indexAddrArr Tryz.underlying102 Tryz.sizeOf23 rfl rfl (by omega) (by omega)) rfl rfl (WL.val (run_load1 Tryz.isAgg23 rfl (h.cellB (cells_at hi))) rfl rfl ?_)))
  refine WL.dec (run_eql rfl rfl) rfl rfl (fun c20 => ?_) (fun c20 => ?_)
  ·
   refine WL.val run_move rfl rfl (WL.skip rfl rfl (WL.skip rfl rfl (WL.skip rfl rfl (WL.skip rfl rfl (WL.skip rfl rfl (WL.skip rfl rfl (WL.skip rfl rfl ?_)))))))
   refine WL.skip rfl rfl (WL.val (run_pickT rfl) rfl rfl (WL.val run_assign rfl rfl (WL.nil (W.condT rfl (W.seq (W.region (WL.eff (eff_call Tryz.call139 (conflict_ok h)) rfl rfl ?_)))))))
   rintro _ w ⟨rfl, h⟩
   refine WL.eff (eff_storeW (vs := [.int .i64 _, .int .i64 _, .int .i64 _, .slice _ _ _, .int .i64 _]) h Tryz.sizeOf36 rfl rfl rfl rfl rfl) rfl rfl ?_
   rintro _ w h
   refine WL.val run_assign rfl rfl (WL.nil (W.ret (bodyQ.rctB (vs := [.int .i64 _, .int .i64 _, .int .i64 _, .slice _ _ _, .int .i64 _]) (v2 := .bool _) h Tryz.results142 Tryz.isAgg36 Tryz.sizeOf36 rfl rfl rfl rfl ?_)))
   exact ⟨.inr ⟨by unfold okKB; simp only [decide_eq_true (show t.K i = 0 by omega)]; rfl, rfl⟩, h.to⟩
  refine WL.val run_move rfl rfl (WL.val run_move rfl rfl (WL.val run_move rfl rfl (WL.val (run_nilCheck rfl) rfl rfl (WL.val (run_fieldAddr 0 Tryz.underlying152 rfl Tryz.sizeOf102 rfl rfl) rfl rfl (WL.val (run_indexAddrArr Tryz.underlying102 Tryz.sizeOf23 rfl rfl (by omega) (by omega)) rfl rfl (WL.val (run_load1 Tryz.isAgg23 rfl (h.cellB (cells_at hi))) rfl rfl (WL.val run_move rfl rfl ?_)))))))
  refine WL.val (run_neq rfl rfl) rfl rfl (WL.val (run_pickF rfl) rfl rfl (WL.val run_assign rfl rfl (WL.nil ?_)))
  refine W.condIf rfl (fun c7 => ?_) (fun c7 => ?_)
  ·
   refine W.seq (W.region (WL.eff (eff_call Tryz.call139 (conflict_ok h)) rfl rfl ?_))
   rintro _ w ⟨rfl, h⟩
   refine WL.eff (eff_storeW (vs := [.int .i64 _, .int .i64 _, .int .i64 _, .slice _ _ _, .int .i64 _]) h Tryz.sizeOf36 rfl rfl rfl rfl rfl) rfl rfl ?_
   rintro _ w h
   refine WL.val run_assign rfl rfl (WL.nil (W.ret (bodyQ.rctB (vs := [.int .i64 _, .int .i64 _, .int .i64 _, .slice _ _ _, .int .i64 _]) (v2 := .bool _) h Tryz.results142 Tryz.isAgg36 Tryz.sizeOf36 rfl rfl rfl rfl ?_)))
   exact ⟨.inr ⟨by unfold okKB; rw [decide_eq_false (show ¬ t.K i = key by omega), Bool.and_false], rfl⟩, h.to⟩
  refine W.skip (W.seq (W.region (WL.eff (eff_call Tryz.call141 (good_ok h)) rfl rfl ?_)))
  rintro _ w ⟨rfl, h⟩
  refine WL.eff (eff_storeW (vs := [.int .i64 _, .int .i64 _, .int .i64 _, .slice _ _ _, .int .i64 _]) h Tryz.sizeOf36 rfl rfl rfl rfl rfl) rfl rfl ?_
  rintro _ w h
  refine WL.val run_assign rfl rfl (WL.nil (W.ret (bodyQ.rctB (vs := [.int .i64 _, .int .i64 _, .int .i64 _, .slice _ _ _, .int .i64 _]) (v2 := .bool _) h Tryz.results142 Tryz.isAgg36 Tryz.sizeOf36 rfl rfl rfl rfl ?_)))
  exact ⟨.inl ⟨by unfold okKB; rw [decide_eq_false (show ¬ t.K i = 0 by omega), decide_eq_true (show t.K i = key by omega)]; rfl, rfl⟩, h.to⟩

theorem uregister_ok {b i : Nat} {t : Tb} {key fresh : Int} {ign : Bool} (hi : i < 8) (h : On W0 (blk b t.cells 152 :: L) w) : Calls Tryz.prog 94 #[.pointer (some ⟨b, 0, none⟩), .int .i64 (i : Int), .int .u64 key, .int .u64 fresh, .bool ign] w (Ret fun v w' => ∃ a c, v = .tuple #[(regF t i key fresh ign).r.val (.slice none 0 0), .slice a (regF t i key fresh ign).l.length c] ∧ On W0 (Own 2 (.slice a (regF t i key fresh ign).l.length c) (regF t i key fresh ign).l.length (notesV (regF t i key fresh ign).code ((regF t i key fresh ign).l)) :: blk b (regF t i key fresh ign).t.cells 152 :: L) w') := by
  refine enter Tryz.func94 rfl Tryz.ntmps94 rfl (W.seq (W.region (WL.eff (eff_alloc h Tryz.zeroValue36 rfl) rfl rfl ?_)))
  rintro _ w ⟨b10, rfl, h⟩
  refine WL.val run_assign rfl rfl (WL.nil (W.seq (W.block (W.seq (W.region (WL.val run_move rfl rfl (WL.eff (eff_call Tryz.call89 (host_ok h)) rfl rfl ?_)))))))
  rintro _ w ⟨hv, h⟩
  rw [hostB_iff.2 ⟨by omega, by omega⟩] at hv
  subst hv
  refine WL.val (run_not rfl) rfl rfl (WL.val run_assign rfl rfl (WL.nil (W.condF rfl (W.seq (W.region (WL.val run_move rfl rfl ?_))))))
  refine WL.boolB (run_not rfl) rfl rfl (fun c20 => ?_) (fun c20 => ?_)
  ·
   refine WL.val run_move rfl rfl (WL.val run_move rfl rfl (WL.val run_move rfl rfl (WL.val run_move rfl rfl (WL.val (run_nilCheck rfl) rfl rfl (WL.val (run_fieldAddr 0 Tryz.underlying152 rfl Tryz.sizeOf102 rfl rfl) rfl rfl (WL.val (run_indexAddrArr Tryz.underlying102 Tryz.sizeOf23 rfl rfl (by omega) (by omega)) rfl rfl (WL.val (run_load1 Tryz.isAgg23 rfl (h.cellB (cells_at hi))) rfl rfl ?_)))))))
   refine WL.val (run_neq rfl rfl) rfl rfl (WL.val (run_pickT rfl) rfl rfl (WL.val run_assign rfl rfl (WL.nil ?_)))
   refine W.condIf rfl (fun c7 => ?_) (fun c7 => ?_)
   ·
    refine W.seq (W.region (WL.eff (eff_call Tryz.call139 (conflict_ok h)) rfl rfl ?_))
    rintro _ w ⟨rfl, h⟩
    refine WL.eff (eff_storeW (vs := [.int .i64 _, .int .i64 _, .int .i64 _, .slice _ _ _, .int .i64 _]) h Tryz.sizeOf36 rfl rfl rfl rfl rfl) rfl rfl ?_
    rintro _ w h
    refine WL.val run_assign rfl rfl (WL.nil (W.ret (bodyQ.rctB (vs := [.int .i64 _, .int .i64 _, .int .i64 _, .slice _ _ _, .int .i64 _]) (v2 := .slice _ _ _) h Tryz.results94 Tryz.isAgg36 Tryz.sizeOf36 rfl rfl rfl rfl ?_)))
    have h : On W0 (Own 2 (.slice none 0 0) 0 (notesV 0 []) :: _) w := h.ownEmpty 2 none
    have e : regF t i key fresh ign = ⟨t, plain 24 0 0, [], 0⟩ := by unfold regF; rw [if_neg (by rintro (hx | hx); rw [hx] at c20; cases c20; exact c7 hx)]
    rw [e]
    dsimp only
    exact ⟨none, 0, rfl, h.to⟩
   refine W.skip (W.seq (W.region (WL.val run_move rfl rfl (WL.val (run_nilCheck rfl) rfl rfl (WL.val (run_fieldAddr 10 Tryz.underlying152 rfl Tryz.sizeOf126 rfl rfl) rfl rfl (WL.val (run_load1 Tryz.isAgg126 rfl (h.cellB rfl)) rfl rfl (WL.val (run_addW rfl rfl) rfl rfl ?_)))))))
   refine WL.val (run_nilCheck rfl) rfl rfl (WL.val (run_fieldAddr 10 Tryz.underlying152 rfl Tryz.sizeOf126 rfl rfl) rfl rfl (WL.eff (eff_store (v := .int .u32 _) h Tryz.sizeOf126 rfl rfl rfl rfl rfl) rfl rfl ?_))
   rintro _ w h
   try simp only [Nat.zero_add, Nat.add_zero, List.set_cons_zero, List.set_cons_succ] at h
   refine WL.nil (W.seq ?_)
   have h : On W0 (blk b10 _ 36 :: blk b t.inc.cells 152 :: L) w := h
   refine W.region (WL.val run_assign rfl rfl (WL.nil (W.seq (W.seq (W.region (WL.val run_move rfl rfl ?_))))))
   refine WL.dec (run_eql rfl rfl) rfl rfl (fun c40 => ?_) (fun c40 => ?_)
   ·
    refine WL.val run_move rfl rfl (WL.val run_move rfl rfl (WL.val (run_nilCheck rfl) rfl rfl (WL.val (run_fieldAddr 8 Tryz.underlying152 rfl Tryz.sizeOf3 rfl rfl) rfl rfl (WL.val (run_load1 Tryz.isAgg3 rfl (h.cellB rfl)) rfl rfl (WL.val run_move rfl rfl (WL.val (run_eql rfl rfl) rfl rfl (WL.val (run_pickT rfl) rfl rfl ?_)))))))
    refine WL.nil ?_
    refine W.condIf rfl (fun c14 => ?_) (fun c14 => ?_)
    ·
     refine W.region (WL.val run_move rfl rfl (WL.val run_move rfl rfl (WL.eff (eff_call Tryz.call140 (drop_ok (t := t.inc) (hh := (i : Int)) (h.fetch (blk b t.inc.cells 152)))) rfl rfl ?_)))
     rintro _ w ⟨ad, rfl, h⟩
     have h : On W0 (Own 2 (.slice ad (t.told i).length (t.told i).length) (t.told i).length (notesV 10756 (t.told i)) :: blk b t.inc.freed.cells 152 :: _) w := h
     refine WL.val run_assign rfl rfl (WL.nil (W.seq (W.region (WL.val run_move rfl rfl (WL.val run_move rfl rfl (WL.val run_move rfl rfl (WL.val (run_nilCheck rfl) rfl rfl ?_)))))))
     refine WL.val (run_fieldAddr 0 Tryz.underlying152 rfl Tryz.sizeOf102 rfl rfl) rfl rfl (WL.val (run_indexAddrArr Tryz.underlying102 Tryz.sizeOf23 rfl rfl (by omega) (by omega)) rfl rfl (WL.eff (eff_store (v := .int .u64 _) h Tryz.sizeOf23 rfl rfl rfl (cells_lt hi) (free0 _)) rfl rfl ?_))
     rintro _ w h
     rw [cells_set hi] at h
     refine WL.nil (W.seq (W.region (WL.eff (eff_call Tryz.call141 (good_ok h)) rfl rfl ?_)))
     rintro _ w ⟨rfl, h⟩
     refine WL.val run_move rfl rfl (WL.eff (eff_storeW (vs := [.int .i64 _, .int .i64 _, .int .i64 _, .slice _ _ _, .int .i64 _]) h Tryz.sizeOf36 rfl rfl rfl rfl rfl) rfl rfl ?_)
     rintro _ w h
     refine WL.val run_assign rfl rfl (WL.nil (W.ret (bodyQ.rctB (vs := [.int .i64 _, .int .i64 _, .int .i64 _, .slice _ _ _, .int .i64 _]) (v2 := .slice _ _ _) h Tryz.results94 Tryz.isAgg36 Tryz.sizeOf36 rfl rfl rfl rfl ?_)))
     have e1 : regO t i fresh = (t.told i, t.inc.freed.put i fresh) := by unfold regO; rw [if_pos ⟨by omega, c14⟩]
     have e : regF t i key fresh ign = ⟨t.inc.freed.put i fresh, plain 0 0 0, t.told i, 10756⟩ := by unfold regF; rw [if_pos (.inr (by omega)), e1]
     rw [e]
     dsimp only
     exact ⟨ad, (t.told i).length, rfl, h.to⟩
    refine W.skip (W.seq (W.region (WL.val run_move rfl rfl (WL.val run_move rfl rfl (WL.val run_move rfl rfl (WL.val (run_nilCheck rfl) rfl rfl (WL.val (run_fieldAddr 0 Tryz.underlying152 rfl Tryz.sizeOf102 rfl rfl) rfl rfl ?_)))))))
    refine WL.val (run_indexAddrArr Tryz.underlying102 Tryz.sizeOf23 rfl rfl (by omega) (by omega)) rfl rfl (WL.eff (eff_store (v := .int .u64 _) h Tryz.sizeOf23 rfl rfl rfl (cells_lt hi) (free0 _)) rfl rfl ?_)
    rintro _ w h
    rw [cells_set hi] at h
    refine WL.nil (W.seq (W.region (WL.eff (eff_call Tryz.call141 (good_ok h)) rfl rfl ?_)))
    rintro _ w ⟨rfl, h⟩
    refine WL.val run_move rfl rfl (WL.eff (eff_storeW (vs := [.int .i64 _, .int .i64 _, .int .i64 _, .slice _ _ _, .int .i64 _]) h Tryz.sizeOf36 rfl rfl rfl rfl rfl) rfl rfl ?_)
    rintro _ w h
    refine WL.val run_assign rfl rfl (WL.nil (W.ret (bodyQ.rctB (vs := [.int .i64 _, .int .i64 _, .int .i64 _, .slice _ _ _, .int .i64 _]) (v2 := .slice _ _ _) h Tryz.results94 Tryz.isAgg36 Tryz.sizeOf36 rfl rfl rfl rfl ?_)))
    have e1 : regO t i fresh = ([], t.inc.put i fresh) := by unfold regO; rw [if_neg (fun hh => c14 hh.2)]
    have h : On W0 (Own 2 (.slice none 0 0) 0 (notesV 10756 []) :: _) w := h.ownEmpty 2 none
    have e : regF t i key fresh ign = ⟨t.inc.put i fresh, plain 0 0 0, [], 10756⟩ := by unfold regF; rw [if_pos (.inr (by omega)), e1]
    rw [e]
    dsimp only
    exact ⟨none, 0, rfl, h.to⟩
   refine WL.val run_move rfl rfl (WL.skip rfl rfl (WL.skip rfl rfl (WL.skip rfl rfl (WL.skip rfl rfl (WL.skip rfl rfl (WL.skip rfl rfl (WL.val (run_pickF rfl) rfl rfl ?_)))))))
   refine WL.nil (W.condF rfl (W.skip (W.seq (W.region (WL.val run_move rfl rfl (WL.val run_move rfl rfl (WL.val run_move rfl rfl ?_)))))))
   refine WL.val (run_nilCheck rfl) rfl rfl (WL.val (run_fieldAddr 0 Tryz.underlying152 rfl Tryz.sizeOf102 rfl rfl) rfl rfl (WL.val (run_indexAddrArr Tryz.underlying102 Tryz.sizeOf23 rfl rfl (by omega) (by omega)) rfl rfl (WL.eff (eff_store (v := .int .u64 _) h Tryz.sizeOf23 rfl rfl rfl (cells_lt hi) (free0 _)) rfl rfl ?_)))
   rintro _ w h
   rw [cells_set hi] at h
   refine WL.nil (W.seq (W.region (WL.eff (eff_call Tryz.call141 (good_ok h)) rfl rfl ?_)))
   rintro _ w ⟨rfl, h⟩
   refine WL.val run_move rfl rfl (WL.eff (eff_storeW (vs := [.int .i64 _, .int .i64 _, .int .i64 _, .slice _ _ _, .int .i64 _]) h Tryz.sizeOf36 rfl rfl rfl rfl rfl) rfl rfl ?_)
   rintro _ w h
   refine WL.val run_assign rfl rfl (WL.nil (W.ret (bodyQ.rctB (vs := [.int .i64 _, .int .i64 _, .int .i64 _, .slice _ _ _, .int .i64 _]) (v2 := .slice _ _ _) h Tryz.results94 Tryz.isAgg36 Tryz.sizeOf36 rfl rfl rfl rfl ?_)))
   have e1 : regO t i fresh = ([], t.inc.put i fresh) := by unfold regO; rw [if_neg (fun hh => c40 hh.1)]
   have h : On W0 (Own 2 (.slice none 0 0) 0 (notesV 10756 []) :: _) w := h.ownEmpty 2 none
   have e : regF t i key fresh ign = ⟨t.inc.put i fresh, plain 0 0 0, [], 10756⟩ := by unfold regF; rw [if_pos (.inr (by omega)), e1]
   rw [e]
   dsimp only
   exact ⟨none, 0, rfl, h.to⟩
  refine WL.val run_move rfl rfl (WL.skip rfl rfl (WL.skip rfl rfl (WL.skip rfl rfl (WL.skip rfl rfl (WL.skip rfl rfl (WL.skip rfl rfl (WL.skip rfl rfl ?_)))))))
  refine WL.skip rfl rfl (WL.val (run_pickF rfl) rfl rfl (WL.val run_assign rfl rfl (WL.nil (W.condF rfl (W.skip (W.seq (W.region ?_)))))))
  refine WL.val run_move rfl rfl (WL.val (run_nilCheck rfl) rfl rfl (WL.val (run_fieldAddr 10 Tryz.underlying152 rfl Tryz.sizeOf126 rfl rfl) rfl rfl (WL.val (run_load1 Tryz.isAgg126 rfl (h.cellB rfl)) rfl rfl (WL.val (run_addW rfl rfl) rfl rfl (WL.val (run_nilCheck rfl) rfl rfl (WL.val (run_fieldAddr 10 Tryz.underlying152 rfl Tryz.sizeOf126 rfl rfl) rfl rfl (WL.eff (eff_store (v := .int .u32 _) h Tryz.sizeOf126 rfl rfl rfl rfl rfl) rfl rfl ?_)))))))
  rintro _ w h
  try simp only [Nat.zero_add, Nat.add_zero, List.set_cons_zero, List.set_cons_succ] at h
  refine WL.nil (W.seq ?_)
  have h : On W0 (blk b10 _ 36 :: blk b t.inc.cells 152 :: L) w := h
  refine W.region (WL.val run_assign rfl rfl (WL.nil (W.seq (W.seq (W.region (WL.val run_move rfl rfl ?_))))))
  refine WL.dec (run_eql rfl rfl) rfl rfl (fun c40 => ?_) (fun c40 => ?_)
  ·
   refine WL.val run_move rfl rfl (WL.val run_move rfl rfl (WL.val (run_nilCheck rfl) rfl rfl (WL.val (run_fieldAddr 8 Tryz.underlying152 rfl Tryz.sizeOf3 rfl rfl) rfl rfl (WL.val (run_load1 Tryz.isAgg3 rfl (h.cellB rfl)) rfl rfl (WL.val run_move rfl rfl (WL.val (run_eql rfl rfl) rfl rfl (WL.val (run_pickT rfl) rfl rfl ?_)))))))
   refine WL.nil ?_
   refine W.condIf rfl (fun c14 => ?_) (fun c14 => ?_)
   ·
    refine W.region (WL.val run_move rfl rfl (WL.val run_move rfl rfl (WL.eff (eff_call Tryz.call140 (drop_ok (t := t.inc) (hh := (i : Int)) (h.fetch (blk b t.inc.cells 152)))) rfl rfl ?_)))
    rintro _ w ⟨ad, rfl, h⟩
    have h : On W0 (Own 2 (.slice ad (t.told i).length (t.told i).length) (t.told i).length (notesV 10756 (t.told i)) :: blk b t.inc.freed.cells 152 :: _) w := h
    refine WL.val run_assign rfl rfl (WL.nil (W.seq (W.region (WL.val run_move rfl rfl (WL.val run_move rfl rfl (WL.val run_move rfl rfl (WL.val (run_nilCheck rfl) rfl rfl ?_)))))))
    refine WL.val (run_fieldAddr 0 Tryz.underlying152 rfl Tryz.sizeOf102 rfl rfl) rfl rfl (WL.val (run_indexAddrArr Tryz.underlying102 Tryz.sizeOf23 rfl rfl (by omega) (by omega)) rfl rfl (WL.eff (eff_store (v := .int .u64 _) h Tryz.sizeOf23 rfl rfl rfl (cells_lt hi) (free0 _)) rfl rfl ?_))
    rintro _ w h
    rw [cells_set hi] at h
    refine WL.nil (W.seq (W.region (WL.eff (eff_call Tryz.call141 (good_ok h)) rfl rfl ?_)))
    rintro _ w ⟨rfl, h⟩
    refine WL.val run_move rfl rfl (WL.eff (eff_storeW (vs := [.int .i64 _, .int .i64 _, .int .i64 _, .slice _ _ _, .int .i64 _]) h Tryz.sizeOf36 rfl rfl rfl rfl rfl) rfl rfl ?_)
    rintro _ w h
    refine WL.val run_assign rfl rfl (WL.nil (W.ret (bodyQ.rctB (vs := [.int .i64 _, .int .i64 _, .int .i64 _, .slice _ _ _, .int .i64 _]) (v2 := .slice _ _ _) h Tryz.results94 Tryz.isAgg36 Tryz.sizeOf36 rfl rfl rfl rfl ?_)))
    have e1 : regO t i fresh = (t.told i, t.inc.freed.put i fresh) := by unfold regO; rw [if_pos ⟨by omega, c14⟩]
    have e : regF t i key fresh ign = ⟨t.inc.freed.put i fresh, plain 0 0 0, t.told i, 10756⟩ := by unfold regF; rw [if_pos (.inl (by simpa using c20)), e1]
    rw [e]
    dsimp only
    exact ⟨ad, (t.told i).length, rfl, h.to⟩
   refine W.skip (W.seq (W.region (WL.val run_move rfl rfl (WL.val run_move rfl rfl (WL.val run_move rfl rfl (WL.val (run_nilCheck rfl) rfl rfl (WL.val (run_fieldAddr 0 Tryz.underlying152 rfl Tryz.sizeOf102 rfl rfl) rfl rfl ?_)))))))
   refine WL.val (run_indexAddrArr Tryz.underlying102 Tryz.sizeOf23 rfl rfl (by omega) (by omega)) rfl rfl (WL.eff (eff_store (v := .int .u64 _) h Tryz.sizeOf23 rfl rfl rfl (cells_lt hi) (free0 _)) rfl rfl ?_)
   rintro _ w h
   rw [cells_set hi] at h
   refine WL.nil (W.seq (W.region (WL.eff (eff_call Tryz.call141 (good_ok h)) rfl rfl ?_)))
   rintro _ w ⟨rfl, h⟩
   refine WL.val run_move rfl rfl (WL.eff (eff_storeW (vs := [.int .i64 _, .int .i64 _, .int .i64 _, .slice _ _ _, .int .i64 _]) h Tryz.sizeOf36 rfl rfl rfl rfl rfl) rfl rfl ?_)
   rintro _ w h
   refine WL.val run_assign rfl rfl (WL.nil (W.ret (bodyQ.rctB (vs := [.int .i64 _, .int .i64 _, .int .i64 _, .slice _ _ _, .int .i64 _]) (v2 := .slice _ _ _) h Tryz.results94 Tryz.isAgg36 Tryz.sizeOf36 rfl rfl rfl rfl ?_)))
   have e1 : regO t i fresh = ([], t.inc.put i fresh) := by unfold regO; rw [if_neg (fun hh => c14 hh.2)]
   have h : On W0 (Own 2 (.slice none 0 0) 0 (notesV 10756 []) :: _) w := h.ownEmpty 2 none
   have e : regF t i key fresh ign = ⟨t.inc.put i fresh, plain 0 0 0, [], 10756⟩ := by unfold regF; rw [if_pos (.inl (by simpa using c20)), e1]
   rw [e]
   dsimp only
   exact ⟨none, 0, rfl, h.to⟩
  refine WL.val run_move rfl rfl (WL.skip rfl rfl (WL.skip rfl rfl (WL.skip rfl rfl (WL.skip rfl rfl (WL.skip rfl rfl (WL.skip rfl rfl (WL.val (run_pickF rfl) rfl rfl ?_)))))))
  refine WL.nil (W.condF rfl (W.skip (W.seq (W.region (WL.val run_move rfl rfl (WL.val run_move rfl rfl (WL.val run_move rfl rfl ?_)))))))
  refine WL.val (run_nilCheck rfl) rfl rfl (WL.val (run_fieldAddr 0 Tryz.underlying152 rfl Tryz.sizeOf102 rfl rfl) rfl rfl (WL.val (run_indexAddrArr Tryz.underlying102 Tryz.sizeOf23 rfl rfl (by omega) (by omega)) rfl rfl (WL.eff (eff_store (v := .int .u64 _) h Tryz.sizeOf23 rfl rfl rfl (cells_lt hi) (free0 _)) rfl rfl ?_)))
  rintro _ w h
  rw [cells_set hi] at h
  refine WL.nil (W.seq (W.region (WL.eff (eff_call Tryz.call141 (good_ok h)) rfl rfl ?_)))
  rintro _ w ⟨rfl, h⟩
  refine WL.val run_move rfl rfl (WL.eff (eff_storeW (vs := [.int .i64 _, .int .i64 _, .int .i64 _, .slice _ _ _, .int .i64 _]) h Tryz.sizeOf36 rfl rfl rfl rfl rfl) rfl rfl ?_)
  rintro _ w h
  refine WL.val run_assign rfl rfl (WL.nil (W.ret (bodyQ.rctB (vs := [.int .i64 _, .int .i64 _, .int .i64 _, .slice _ _ _, .int .i64 _]) (v2 := .slice _ _ _) h Tryz.results94 Tryz.isAgg36 Tryz.sizeOf36 rfl rfl rfl rfl ?_)))
  have e1 : regO t i fresh = ([], t.inc.put i fresh) := by unfold regO; rw [if_neg (fun hh => c40 hh.1)]
  have h : On W0 (Own 2 (.slice none 0 0) 0 (notesV 10756 []) :: _) w := h.ownEmpty 2 none
  have e : regF t i key fresh ign = ⟨t.inc.put i fresh, plain 0 0 0, [], 10756⟩ := by unfold regF; rw [if_pos (.inl (by simpa using c20)), e1]
  rw [e]
  dsimp only
  exact ⟨none, 0, rfl, h.to⟩

theorem ureserve_ok {b i : Nat} {t : Tb} {key typ : Int} (hi : i < 8) (h : On W0 (blk b t.cells 152 :: L) w) : Calls Tryz.prog 95 #[.pointer (some ⟨b, 0, none⟩), .int .i64 (i : Int), .int .u64 key, .int .i64 typ] w (Ret fun v w' => v = (rsvF t i key typ).r.val (.slice none 0 0) ∧ On W0 (blk b (rsvF t i key typ).t.cells 152 :: L) w') := by
  refine enter Tryz.func95 rfl Tryz.ntmps95 rfl (W.seq (W.region (WL.eff (eff_alloc h Tryz.zeroValue36 rfl) rfl rfl ?_)))
  rintro _ w ⟨b8, rfl, h⟩
  refine WL.nil (W.seq (W.seq (W.region (WL.val run_move rfl rfl (WL.val run_move rfl rfl (WL.val run_move rfl rfl (WL.eff (eff_call Tryz.call142 (umay_ok hi (h.fetch (blk b t.cells 152)))) rfl rfl ?_)))))))
  rintro _ w ⟨hv, h⟩
  rcases hv with ⟨hok, rfl⟩ | ⟨hok, rfl⟩
  ·
   refine WL.val run_move rfl rfl (WL.val (run_extract rfl rfl) rfl rfl (WL.val (run_extract rfl rfl) rfl rfl (WL.eff (eff_alloc h Tryz.zeroValue36 rfl) rfl rfl ?_)))
   rintro _ w ⟨b9, rfl, h⟩
   refine WL.eff (eff_storeW (vs := [.int .i64 _, .int .i64 _, .int .i64 _, .slice _ _ _, .int .i64 _]) h Tryz.sizeOf36 rfl rfl rfl rfl rfl) rfl rfl ?_
   rintro _ w h
   refine WL.val run_assign rfl rfl (WL.nil (W.seq (W.region (WL.val run_move rfl rfl (WL.val (run_not rfl) rfl rfl (WL.nil (W.condF rfl ?_)))))))
   refine W.skip (W.seq (W.block (W.seq (W.region (WL.val run_move rfl rfl (WL.eff (eff_call Tryz.call84 (typed_ok h)) rfl rfl ?_))))))
   rintro _ w ⟨hv, h⟩
   have hcs := Bool.eq_false_or_eq_true (typedB typ)
   rcases hcs with hty | hty <;> (rw [hty] at hv; subst hv)
   ·
    refine WL.val (run_not rfl) rfl rfl (WL.val run_assign rfl rfl (WL.nil (W.condF rfl (W.seq (W.region (WL.val run_move rfl rfl (WL.val (run_nilCheck rfl) rfl rfl ?_)))))))
    refine WL.val (run_fieldAddr 8 Tryz.underlying152 rfl Tryz.sizeOf3 rfl rfl) rfl rfl (WL.val (run_load1 Tryz.isAgg3 rfl (h.cellB rfl)) rfl rfl (WL.val (run_eql rfl rfl) rfl rfl (WL.val run_assign rfl rfl (WL.nil ?_))))
    refine W.condIf rfl (fun c13 => ?_) (fun c13 => ?_)
    ·
     refine W.seq (W.region (WL.val run_move rfl rfl (WL.val run_move rfl rfl (WL.val run_move rfl rfl (WL.val run_move rfl rfl (WL.val (run_nilCheck rfl) rfl rfl (WL.val (run_fieldAddr 8 Tryz.underlying152 rfl Tryz.sizeOf3 rfl rfl) rfl rfl ?_)))))))
     refine WL.eff (eff_store (v := .int .i64 _) h Tryz.sizeOf3 rfl rfl rfl rfl rfl) rfl rfl ?_
     rintro _ w h
     try simp only [Nat.zero_add, Nat.add_zero, List.set_cons_zero, List.set_cons_succ] at h
     refine WL.val (run_nilCheck rfl) rfl rfl (WL.val (run_fieldAddr 9 Tryz.underlying152 rfl Tryz.sizeOf3 rfl rfl) rfl rfl (WL.eff (eff_store (v := .int .i64 _) h Tryz.sizeOf3 rfl rfl rfl rfl rfl) rfl rfl ?_))
     rintro _ w h
     try simp only [Nat.zero_add, Nat.add_zero, List.set_cons_zero, List.set_cons_succ] at h
     refine WL.nil (W.seq ?_)
     have h := h.fetch (blk b ((t.cells.set (0 + 8) (.int .i64 (i : Int))).set (0 + 9) (.int .i64 typ)) 152)
     have h : On W0 (blk b (t.take i typ).cells 152 :: _) w := h
     refine W.region (WL.eff (eff_call Tryz.call141 (good_ok h)) rfl rfl ?_)
     rintro _ w ⟨rfl, h⟩
     refine WL.eff (eff_storeW (vs := [.int .i64 _, .int .i64 _, .int .i64 _, .slice _ _ _, .int .i64 _]) h Tryz.sizeOf36 rfl rfl rfl rfl rfl) rfl rfl ?_
     rintro _ w h
     refine WL.nil (W.ret (bodyQ.rcB (vs := [.int .i64 _, .int .i64 _, .int .i64 _, .slice _ _ _, .int .i64 _]) h Tryz.results95 Tryz.isAgg36 Tryz.sizeOf36 rfl rfl rfl ?_))
     have e : rsvF t i key typ = ⟨t.take i typ, plain 0 0 0, [], 0⟩ := by unfold rsvF; rw [if_neg (by rw [hok]; decide), if_neg (by rw [hty]; decide), if_pos c13]
     rw [e]
     dsimp only
     exact ⟨rfl, h.to⟩
    refine W.seq (W.region (WL.val run_move rfl rfl (WL.val (run_nilCheck rfl) rfl rfl (WL.val (run_fieldAddr 8 Tryz.underlying152 rfl Tryz.sizeOf3 rfl rfl) rfl rfl (WL.val (run_load1 Tryz.isAgg3 rfl (h.cellB rfl)) rfl rfl (WL.val run_move rfl rfl ?_))))))
    refine WL.dec (run_eql rfl rfl) rfl rfl (fun c47 => ?_) (fun c47 => ?_)
    ·
     refine WL.val run_move rfl rfl (WL.val run_move rfl rfl (WL.val (run_nilCheck rfl) rfl rfl (WL.val (run_fieldAddr 9 Tryz.underlying152 rfl Tryz.sizeOf3 rfl rfl) rfl rfl (WL.val (run_load1 Tryz.isAgg3 rfl (h.cellB rfl)) rfl rfl (WL.val run_move rfl rfl (WL.val (run_eql rfl rfl) rfl rfl (WL.val (run_pickT rfl) rfl rfl ?_)))))))
     refine WL.val run_assign rfl rfl (WL.nil ?_)
     refine W.condIf rfl (fun c18 => ?_) (fun c18 => ?_)
     ·
      refine W.seq (W.region (WL.eff (eff_call Tryz.call141 (good_ok h)) rfl rfl ?_))
      rintro _ w ⟨rfl, h⟩
      refine WL.eff (eff_storeW (vs := [.int .i64 _, .int .i64 _, .int .i64 _, .slice _ _ _, .int .i64 _]) h Tryz.sizeOf36 rfl rfl rfl rfl rfl) rfl rfl ?_
      rintro _ w h
      refine WL.nil (W.ret (bodyQ.rcB (vs := [.int .i64 _, .int .i64 _, .int .i64 _, .slice _ _ _, .int .i64 _]) h Tryz.results95 Tryz.isAgg36 Tryz.sizeOf36 rfl rfl rfl ?_))
      have e : rsvF t i key typ = ⟨t, plain 0 0 0, [], 0⟩ := by unfold rsvF; rw [if_neg (by rw [hok]; decide), if_neg (by rw [hty]; decide), if_neg c13, if_pos ⟨by omega, by omega⟩]
      rw [e]
      dsimp only
      exact ⟨rfl, h.to⟩
     refine W.skip (W.seq (W.region (WL.eff (eff_call Tryz.call139 (conflict_ok h)) rfl rfl ?_)))
     rintro _ w ⟨rfl, h⟩
     refine WL.eff (eff_storeW (vs := [.int .i64 _, .int .i64 _, .int .i64 _, .slice _ _ _, .int .i64 _]) h Tryz.sizeOf36 rfl rfl rfl rfl rfl) rfl rfl ?_
     rintro _ w h
     refine WL.nil (W.ret (bodyQ.rcB (vs := [.int .i64 _, .int .i64 _, .int .i64 _, .slice _ _ _, .int .i64 _]) h Tryz.results95 Tryz.isAgg36 Tryz.sizeOf36 rfl rfl rfl ?_))
     have e : rsvF t i key typ = ⟨t, plain 24 0 0, [], 0⟩ := by unfold rsvF; rw [if_neg (by rw [hok]; decide), if_neg (by rw [hty]; decide), if_neg c13, if_neg (by omega)]
     rw [e]
     dsimp only
     exact ⟨rfl, h.to⟩
    refine WL.val run_move rfl rfl (WL.skip rfl rfl (WL.skip rfl rfl (WL.skip rfl rfl (WL.skip rfl rfl (WL.skip rfl rfl (WL.skip rfl rfl (WL.val (run_pickF rfl) rfl rfl ?_)))))))
    refine WL.val run_assign rfl rfl (WL.nil (W.condF rfl (W.skip (W.seq (W.region (WL.eff (eff_call Tryz.call139 (conflict_ok h)) rfl rfl ?_))))))
    rintro _ w ⟨rfl, h⟩
    refine WL.eff (eff_storeW (vs := [.int .i64 _, .int .i64 _, .int .i64 _, .slice _ _ _, .int .i64 _]) h Tryz.sizeOf36 rfl rfl rfl rfl rfl) rfl rfl ?_
    rintro _ w h
    refine WL.nil (W.ret (bodyQ.rcB (vs := [.int .i64 _, .int .i64 _, .int .i64 _, .slice _ _ _, .int .i64 _]) h Tryz.results95 Tryz.isAgg36 Tryz.sizeOf36 rfl rfl rfl ?_))
    have e : rsvF t i key typ = ⟨t, plain 24 0 0, [], 0⟩ := by unfold rsvF; rw [if_neg (by rw [hok]; decide), if_neg (by rw [hty]; decide), if_neg c13, if_neg (by omega)]
    rw [e]
    dsimp only
    exact ⟨rfl, h.to⟩
   refine WL.val (run_not rfl) rfl rfl (WL.val run_assign rfl rfl (WL.nil (W.condT rfl (W.seq (W.region (WL.eff (eff_call Tryz.call138 (field_ok h)) rfl rfl ?_))))))
   rintro _ w ⟨rfl, h⟩
   refine WL.eff (eff_storeW (vs := [.int .i64 _, .int .i64 _, .int .i64 _, .slice _ _ _, .int .i64 _]) h Tryz.sizeOf36 rfl rfl rfl rfl rfl) rfl rfl ?_
   rintro _ w h
   refine WL.nil (W.ret (bodyQ.rcB (vs := [.int .i64 _, .int .i64 _, .int .i64 _, .slice _ _ _, .int .i64 _]) h Tryz.results95 Tryz.isAgg36 Tryz.sizeOf36 rfl rfl rfl ?_))
   have e : rsvF t i key typ = ⟨t, plain 2 5 9216, [], 0⟩ := by unfold rsvF; rw [if_neg (by rw [hok]; decide), if_pos hty]
   rw [e]
   dsimp only
   exact ⟨rfl, h.to⟩
  refine WL.val run_move rfl rfl (WL.val (run_extract rfl rfl) rfl rfl (WL.val (run_extract rfl rfl) rfl rfl (WL.eff (eff_alloc h Tryz.zeroValue36 rfl) rfl rfl ?_)))
  rintro _ w ⟨b9, rfl, h⟩
  refine WL.eff (eff_storeW (vs := [.int .i64 _, .int .i64 _, .int .i64 _, .slice _ _ _, .int .i64 _]) h Tryz.sizeOf36 rfl rfl rfl rfl rfl) rfl rfl ?_
  rintro _ w h
  refine WL.val run_assign rfl rfl (WL.nil (W.seq (W.region (WL.val run_move rfl rfl (WL.val (run_not rfl) rfl rfl (WL.nil (W.condT rfl ?_)))))))
  refine W.seq (W.region (WL.val (run_loadB (vs := [.int .i64 _, .int .i64 _, .int .i64 _, .slice _ _ _, .int .i64 _]) h Tryz.isAgg36 Tryz.sizeOf36 rfl rfl rfl) rfl rfl (WL.eff (eff_storeW (vs := [.int .i64 _, .int .i64 _, .int .i64 _, .slice _ _ _, .int .i64 _]) h Tryz.sizeOf36 rfl rfl rfl rfl rfl) rfl rfl ?_)))
  rintro _ w h
  refine WL.nil (W.ret (bodyQ.rcB (vs := [.int .i64 _, .int .i64 _, .int .i64 _, .slice _ _ _, .int .i64 _]) h Tryz.results95 Tryz.isAgg36 Tryz.sizeOf36 rfl rfl rfl ?_))
  have e : rsvF t i key typ = ⟨t, plain 24 0 0, [], 0⟩ := by unfold rsvF; rw [if_pos hok]
  rw [e]
  dsimp only
  exact ⟨rfl, h.to⟩

theorem urelease_ok {b i : Nat} {t : Tb} {key typ : Int} (hi : i < 8) (h : On W0 (blk b t.cells 152 :: L) w) : Calls Tryz.prog 96 #[.pointer (some ⟨b, 0, none⟩), .int .i64 (i : Int), .int .u64 key, .int .i64 typ] w (Ret fun v w' => ∃ a c, v = .tuple #[(relF t i key typ).r.val (.slice none 0 0), .slice a (relF t i key typ).l.length c] ∧ On W0 (Own 2 (.slice a (relF t i key typ).l.length c) (relF t i key typ).l.length (notesV (relF t i key typ).code ((relF t i key typ).l)) :: blk b (relF t i key typ).t.cells 152 :: L) w') := by
  refine enter Tryz.func96 rfl Tryz.ntmps96 rfl (W.seq (W.region (WL.eff (eff_alloc h Tryz.zeroValue36 rfl) rfl rfl ?_)))
  rintro _ w ⟨b8, rfl, h⟩
  refine WL.val run_assign rfl rfl (WL.nil (W.seq (W.seq (W.region (WL.val run_move rfl rfl (WL.val run_move rfl rfl (WL.val run_move rfl rfl ?_)))))))
  refine WL.eff (eff_call Tryz.call142 (umay_ok hi (h.fetch (blk b t.cells 152)))) rfl rfl ?_
  rintro _ w ⟨hv, h⟩
  rcases hv with ⟨hok, rfl⟩ | ⟨hok, rfl⟩
  ·
   refine WL.val run_move rfl rfl (WL.val (run_extract rfl rfl) rfl rfl (WL.val (run_extract rfl rfl) rfl rfl (WL.eff (eff_alloc h Tryz.zeroValue36 rfl) rfl rfl ?_)))
   rintro _ w ⟨b10, rfl, h⟩
   refine WL.eff (eff_storeW (vs := [.int .i64 _, .int .i64 _, .int .i64 _, .slice _ _ _, .int .i64 _]) h Tryz.sizeOf36 rfl rfl rfl rfl rfl) rfl rfl ?_
   rintro _ w h
   refine WL.val run_assign rfl rfl (WL.nil (W.seq (W.region (WL.val run_move rfl rfl (WL.val (run_not rfl) rfl rfl (WL.nil (W.condF rfl ?_)))))))
   refine W.skip (W.seq (W.block (W.seq (W.region (WL.val run_move rfl rfl (WL.eff (eff_call Tryz.call84 (typed_ok h)) rfl rfl ?_))))))
   rintro _ w ⟨hv, h⟩
   have hcs := Bool.eq_false_or_eq_true (typedB typ)
   rcases hcs with hty | hty <;> (rw [hty] at hv; subst hv)
   ·
    refine WL.val (run_not rfl) rfl rfl (WL.val run_assign rfl rfl (WL.nil (W.condF rfl (W.seq (W.region (WL.val run_move rfl rfl (WL.val (run_nilCheck rfl) rfl rfl ?_)))))))
    refine WL.val (run_fieldAddr 8 Tryz.underlying152 rfl Tryz.sizeOf3 rfl rfl) rfl rfl (WL.val (run_load1 Tryz.isAgg3 rfl (h.cellB rfl)) rfl rfl (WL.val run_move rfl rfl (WL.val (run_neq rfl rfl) rfl rfl (WL.val run_assign rfl rfl (WL.nil ?_)))))
    refine W.condIf rfl (fun c13 => ?_) (fun c13 => ?_)
    ·
     refine W.seq (W.region (WL.eff (eff_call Tryz.call141 (good_ok h)) rfl rfl ?_))
     rintro _ w ⟨rfl, h⟩
     refine WL.eff (eff_storeW (vs := [.int .i64 _, .int .i64 _, .int .i64 _, .slice _ _ _, .int .i64 _]) h Tryz.sizeOf36 rfl rfl rfl rfl rfl) rfl rfl ?_
     rintro _ w h
     refine WL.val run_assign rfl rfl (WL.nil (W.ret (bodyQ.rctB (vs := [.int .i64 _, .int .i64 _, .int .i64 _, .slice _ _ _, .int .i64 _]) (v2 := .slice _ _ _) h Tryz.results96 Tryz.isAgg36 Tryz.sizeOf36 rfl rfl rfl rfl ?_)))
     have h : On W0 (Own 2 (.slice none 0 0) 0 (notesV 0 []) :: _) w := h.ownEmpty 2 none
     have e : relF t i key typ = ⟨t, plain 0 0 0, [], 0⟩ := by unfold relF; rw [if_neg (by rw [hok]; decide), if_neg (by rw [hty]; decide), if_pos (show t.hold ≠ i from c13)]
     rw [e]
     dsimp only
     exact ⟨none, 0, rfl, h.to⟩
    refine W.seq (W.region (WL.val run_move rfl rfl (WL.val (run_nilCheck rfl) rfl rfl (WL.val (run_fieldAddr 9 Tryz.underlying152 rfl Tryz.sizeOf3 rfl rfl) rfl rfl (WL.val (run_load1 Tryz.isAgg3 rfl (h.cellB rfl)) rfl rfl (WL.val run_move rfl rfl (WL.val (run_neq rfl rfl) rfl rfl ?_)))))))
    refine WL.val run_assign rfl rfl (WL.nil ?_)
    refine W.condIf rfl (fun c17 => ?_) (fun c17 => ?_)
    ·
     refine W.seq (W.region (WL.eff (eff_call Tryz.call36 (wrong_ok h)) rfl rfl ?_))
     rintro _ w ⟨rfl, h⟩
     refine WL.eff (eff_storeW (vs := [.int .i64 _, .int .i64 _, .int .i64 _, .slice _ _ _, .int .i64 _]) h Tryz.sizeOf36 rfl rfl rfl rfl rfl) rfl rfl ?_
     rintro _ w h
     refine WL.val run_assign rfl rfl (WL.nil (W.ret (bodyQ.rctB (vs := [.int .i64 _, .int .i64 _, .int .i64 _, .slice _ _ _, .int .i64 _]) (v2 := .slice _ _ _) h Tryz.results96 Tryz.isAgg36 Tryz.sizeOf36 rfl rfl rfl rfl ?_)))
     have h : On W0 (Own 2 (.slice none 0 0) 0 (notesV 0 []) :: _) w := h.ownEmpty 2 none
     have e : relF t i key typ = ⟨t, plain 2 5 9732, [], 0⟩ := by unfold relF; rw [if_neg (by rw [hok]; decide), if_neg (by rw [hty]; decide), if_neg (by omega), if_pos (show t.typ ≠ typ from c17)]
     rw [e]
     dsimp only
     exact ⟨none, 0, rfl, h.to⟩
    refine W.skip (W.seq (W.region (WL.eff (eff_call Tryz.call141 (good_ok h)) rfl rfl ?_)))
    rintro _ w ⟨rfl, h⟩
    refine WL.val run_move rfl rfl (WL.val run_move rfl rfl (WL.eff (eff_call Tryz.call140 (drop_ok (hh := (i : Int)) (h.fetch (blk b t.cells 152)))) rfl rfl ?_))
    rintro _ w ⟨ad, rfl, h⟩
    refine WL.eff (eff_storeW (vs := [.int .i64 _, .int .i64 _, .int .i64 _, .slice _ _ _, .int .i64 _]) h Tryz.sizeOf36 rfl rfl rfl rfl rfl) rfl rfl ?_
    rintro _ w h
    refine WL.val run_assign rfl rfl (WL.nil (W.ret (bodyQ.rctB (vs := [.int .i64 _, .int .i64 _, .int .i64 _, .slice _ _ _, .int .i64 _]) (v2 := .slice _ _ _) h Tryz.results96 Tryz.isAgg36 Tryz.sizeOf36 rfl rfl rfl rfl ?_)))
    have e : relF t i key typ = ⟨t.freed, plain 0 0 0, t.told i, 10756⟩ := by unfold relF; rw [if_neg (by rw [hok]; decide), if_neg (by rw [hty]; decide), if_neg (by omega), if_neg (by omega)]
    rw [e]
    dsimp only
    exact ⟨ad, (t.told i).length, rfl, h.to⟩
   refine WL.val (run_not rfl) rfl rfl (WL.val run_assign rfl rfl (WL.nil (W.condT rfl (W.seq (W.region (WL.eff (eff_call Tryz.call138 (field_ok h)) rfl rfl ?_))))))
   rintro _ w ⟨rfl, h⟩
   refine WL.eff (eff_storeW (vs := [.int .i64 _, .int .i64 _, .int .i64 _, .slice _ _ _, .int .i64 _]) h Tryz.sizeOf36 rfl rfl rfl rfl rfl) rfl rfl ?_
   rintro _ w h
   refine WL.val run_assign rfl rfl (WL.nil (W.ret (bodyQ.rctB (vs := [.int .i64 _, .int .i64 _, .int .i64 _, .slice _ _ _, .int .i64 _]) (v2 := .slice _ _ _) h Tryz.results96 Tryz.isAgg36 Tryz.sizeOf36 rfl rfl rfl rfl ?_)))
   have h : On W0 (Own 2 (.slice none 0 0) 0 (notesV 0 []) :: _) w := h.ownEmpty 2 none
   have e : relF t i key typ = ⟨t, plain 2 5 9216, [], 0⟩ := by unfold relF; rw [if_neg (by rw [hok]; decide), if_pos hty]
   rw [e]
   dsimp only
   exact ⟨none, 0, rfl, h.to⟩
  refine WL.val run_move rfl rfl (WL.val (run_extract rfl rfl) rfl rfl (WL.val (run_extract rfl rfl) rfl rfl (WL.eff (eff_alloc h Tryz.zeroValue36 rfl) rfl rfl ?_)))
  rintro _ w ⟨b10, rfl, h⟩
  refine WL.eff (eff_storeW (vs := [.int .i64 _, .int .i64 _, .int .i64 _, .slice _ _ _, .int .i64 _]) h Tryz.sizeOf36 rfl rfl rfl rfl rfl) rfl rfl ?_
  rintro _ w h
  refine WL.val run_assign rfl rfl (WL.nil (W.seq (W.region (WL.val run_move rfl rfl (WL.val (run_not rfl) rfl rfl (WL.nil (W.condT rfl ?_)))))))
  refine W.seq (W.region (WL.val (run_loadB (vs := [.int .i64 _, .int .i64 _, .int .i64 _, .slice _ _ _, .int .i64 _]) h Tryz.isAgg36 Tryz.sizeOf36 rfl rfl rfl) rfl rfl (WL.eff (eff_storeW (vs := [.int .i64 _, .int .i64 _, .int .i64 _, .slice _ _ _, .int .i64 _]) h Tryz.sizeOf36 rfl rfl rfl rfl rfl) rfl rfl ?_)))
  rintro _ w h
  refine WL.val run_assign rfl rfl (WL.nil (W.ret (bodyQ.rctB (vs := [.int .i64 _, .int .i64 _, .int .i64 _, .slice _ _ _, .int .i64 _]) (v2 := .slice _ _ _) h Tryz.results96 Tryz.isAgg36 Tryz.sizeOf36 rfl rfl rfl rfl ?_)))
  have h : On W0 (Own 2 (.slice none 0 0) 0 (notesV 0 []) :: _) w := h.ownEmpty 2 none
  have e : relF t i key typ = ⟨t, plain 24 0 0, [], 0⟩ := by unfold relF; rw [if_pos hok]
  rw [e]
  dsimp only
  exact ⟨none, 0, rfl, h.to⟩

theorem uclear_ok {b i : Nat} {t : Tb} {key : Int} (hi : i < 8) (h : On W0 (blk b t.cells 152 :: L) w) : Calls Tryz.prog 97 #[.pointer (some ⟨b, 0, none⟩), .int .i64 (i : Int), .int .u64 key] w (Ret fun v w' => ∃ a c, v = .tuple #[(clrF t i key).r.val (.slice none 0 0), .slice a (clrF t i key).l.length c] ∧ On W0 (Own 2 (.slice a (clrF t i key).l.length c) (clrF t i key).l.length (notesV (clrF t i key).code ((clrF t i key).l)) :: blk b (clrF t i key).t.cells 152 :: L) w') := by
  refine enter Tryz.func97 rfl Tryz.ntmps97 rfl (W.seq (W.region (WL.eff (eff_alloc h Tryz.zeroValue36 rfl) rfl rfl ?_)))
  rintro _ w ⟨b6, rfl, h⟩
  refine WL.val run_assign rfl rfl (WL.nil (W.seq (W.seq (W.region (WL.val run_move rfl rfl (WL.val run_move rfl rfl (WL.val run_move rfl rfl ?_)))))))
  refine WL.eff (eff_call Tryz.call142 (umay_ok hi (h.fetch (blk b t.cells 152)))) rfl rfl ?_
  rintro _ w ⟨hv, h⟩
  rcases hv with ⟨hok, rfl⟩ | ⟨hok, rfl⟩
  ·
   refine WL.val run_move rfl rfl (WL.val (run_extract rfl rfl) rfl rfl (WL.val (run_extract rfl rfl) rfl rfl (WL.eff (eff_alloc h Tryz.zeroValue36 rfl) rfl rfl ?_)))
   rintro _ w ⟨b8, rfl, h⟩
   refine WL.eff (eff_storeW (vs := [.int .i64 _, .int .i64 _, .int .i64 _, .slice _ _ _, .int .i64 _]) h Tryz.sizeOf36 rfl rfl rfl rfl rfl) rfl rfl ?_
   rintro _ w h
   refine WL.val run_assign rfl rfl (WL.nil (W.seq (W.region (WL.val run_move rfl rfl (WL.val (run_not rfl) rfl rfl (WL.nil (W.condF rfl ?_)))))))
   refine W.skip (W.seq (W.region (WL.val run_move rfl rfl (WL.val run_move rfl rfl (WL.eff (eff_call Tryz.call143 (others_ok (t := t) (b := b) (hh := (i : Int)) (code := 10755) (f := 144) (caps := #[]) (p := (fun _ => true)) (h.fetch (blk b t.cells 152)) Tryz.call144 (fun k A w h => every_ok h))) rfl rfl ?_)))))
   rintro _ w ⟨ad, rfl, h⟩
   refine WL.val run_assign rfl rfl (WL.nil (W.seq (W.region (WL.val run_move rfl rfl (WL.val (run_nilCheck rfl) rfl rfl (WL.val (run_fieldAddr 10 Tryz.underlying152 rfl Tryz.sizeOf126 rfl rfl) rfl rfl (WL.val (run_load1 Tryz.isAgg126 rfl (h.cellB rfl)) rfl rfl ?_)))))))
   refine WL.val (run_addW rfl rfl) rfl rfl (WL.val (run_nilCheck rfl) rfl rfl (WL.val (run_fieldAddr 10 Tryz.underlying152 rfl Tryz.sizeOf126 rfl rfl) rfl rfl (WL.eff (eff_store (v := .int .u32 _) h Tryz.sizeOf126 rfl rfl rfl rfl rfl) rfl rfl ?_)))
   rintro _ w h
   try simp only [Nat.zero_add, Nat.add_zero, List.set_cons_zero, List.set_cons_succ] at h
   refine WL.nil (W.seq (W.region (WL.val run_move rfl rfl (WL.val run_move rfl rfl (WL.val run_move rfl rfl (WL.val (run_buildA (out := [.int .u64 _, .int .u64 _, .int .u64 _, .int .u64 _, .int .u64 _, .int .u64 _, .int .u64 _, .int .u64 _]) Tryz.underlying102 Tryz.sizeOf23 Tryz.zeroValue102 rfl rfl (by simp) (trivial) rfl) rfl rfl (WL.val (run_nilCheck rfl) rfl rfl ?_)))))))
   refine WL.val (run_fieldAddr 0 Tryz.underlying152 rfl Tryz.sizeOf102 rfl rfl) rfl rfl (WL.eff (eff_storeN (vs := keysV fun _ => 0) h Tryz.sizeOf102 rfl rfl rfl rfl rfl (fun k _ _ => free0 k)) rfl rfl ?_)
   rintro _ w h
   refine WL.val (run_nilCheck rfl) rfl rfl (WL.val (run_fieldAddr 8 Tryz.underlying152 rfl Tryz.sizeOf3 rfl rfl) rfl rfl (WL.eff (eff_store (v := .int .i64 _) h Tryz.sizeOf3 rfl rfl rfl rfl rfl) rfl rfl ?_))
   rintro _ w h
   try simp only [Nat.zero_add, Nat.add_zero, List.set_cons_zero, List.set_cons_succ] at h
   refine WL.val (run_nilCheck rfl) rfl rfl (WL.val (run_fieldAddr 9 Tryz.underlying152 rfl Tryz.sizeOf3 rfl rfl) rfl rfl (WL.eff (eff_store (v := .int .i64 _) h Tryz.sizeOf3 rfl rfl rfl rfl rfl) rfl rfl ?_))
   rintro _ w h
   try simp only [Nat.zero_add, Nat.add_zero, List.set_cons_zero, List.set_cons_succ] at h
   refine WL.nil (W.seq ?_)
   have h := h.fetch (blk b ((((t.cells.set (0 + 10) (.int .u32 (IntKind.u32.wrap (t.gen + 1)))) |> (splice · (0 + 0) (keysV fun _ => 0))).set (0 + 8) (.int .i64 (-1))).set (0 + 9) (.int .i64 0)) 152)
   have h : On W0 (blk b t.cleared.cells 152 :: _) w := h
   refine W.region (WL.eff (eff_call Tryz.call141 (good_ok h)) rfl rfl ?_)
   rintro _ w ⟨rfl, h⟩
   refine WL.val run_move rfl rfl (WL.eff (eff_storeW (vs := [.int .i64 _, .int .i64 _, .int .i64 _, .slice _ _ _, .int .i64 _]) h Tryz.sizeOf36 rfl rfl rfl rfl rfl) rfl rfl ?_)
   rintro _ w h
   refine WL.val run_assign rfl rfl (WL.nil (W.ret (bodyQ.rctB (vs := [.int .i64 _, .int .i64 _, .int .i64 _, .slice _ _ _, .int .i64 _]) (v2 := .slice _ _ _) h Tryz.results97 Tryz.isAgg36 Tryz.sizeOf36 rfl rfl rfl rfl ?_)))
   have e : clrF t i key = ⟨t.cleared, plain 0 0 0, hostsN t.K i (fun _ => true) 8, 10755⟩ := by unfold clrF; rw [if_neg (by rw [hok]; decide)]
   rw [e]
   dsimp only
   exact ⟨ad, (hostsN t.K i (fun _ => true) 8).length, rfl, h.to⟩
  refine WL.val run_move rfl rfl (WL.val (run_extract rfl rfl) rfl rfl (WL.val (run_extract rfl rfl) rfl rfl (WL.eff (eff_alloc h Tryz.zeroValue36 rfl) rfl rfl ?_)))
  rintro _ w ⟨b8, rfl, h⟩
  refine WL.eff (eff_storeW (vs := [.int .i64 _, .int .i64 _, .int .i64 _, .slice _ _ _, .int .i64 _]) h Tryz.sizeOf36 rfl rfl rfl rfl rfl) rfl rfl ?_
  rintro _ w h
  refine WL.val run_assign rfl rfl (WL.nil (W.seq (W.region (WL.val run_move rfl rfl (WL.val (run_not rfl) rfl rfl (WL.nil (W.condT rfl ?_)))))))
  refine W.seq (W.region (WL.val (run_loadB (vs := [.int .i64 _, .int .i64 _, .int .i64 _, .slice _ _ _, .int .i64 _]) h Tryz.isAgg36 Tryz.sizeOf36 rfl rfl rfl) rfl rfl (WL.eff (eff_storeW (vs := [.int .i64 _, .int .i64 _, .int .i64 _, .slice _ _ _, .int .i64 _]) h Tryz.sizeOf36 rfl rfl rfl rfl rfl) rfl rfl ?_)))
  rintro _ w h
  refine WL.val run_assign rfl rfl (WL.nil (W.ret (bodyQ.rctB (vs := [.int .i64 _, .int .i64 _, .int .i64 _, .slice _ _ _, .int .i64 _]) (v2 := .slice _ _ _) h Tryz.results97 Tryz.isAgg36 Tryz.sizeOf36 rfl rfl rfl rfl ?_)))
  have h : On W0 (Own 2 (.slice none 0 0) 0 (notesV 0 []) :: _) w := h.ownEmpty 2 none
  have e : clrF t i key = ⟨t, plain 24 0 0, [], 0⟩ := by unfold clrF; rw [if_pos hok]
  rw [e]
  dsimp only
  exact ⟨none, 0, rfl, h.to⟩

theorem upreempt_ok {b ii : Nat} {t : Tb} {key other typ : Int} (hi : ii < 8) (hI : t.hold = -1 ∨ (0 ≤ t.hold ∧ t.hold < 8)) (h : On W0 (blk b t.cells 152 :: L) w) : Calls Tryz.prog 98 #[.pointer (some ⟨b, 0, none⟩), .int .i64 (ii : Int), .int .u64 key, .int .u64 other, .int .i64 typ] w (Ret fun v w' => ∃ a c, v = .tuple #[(preF t ii key other typ).r.val (.slice none 0 0), .slice a (preF t ii key other typ).l.length c] ∧ On W0 (Own 2 (.slice a (preF t ii key other typ).l.length c) (preF t ii key other typ).l.length (notesV (preF t ii key other typ).code ((preF t ii key other typ).l)) :: blk b (preF t ii key other typ).t.cells 152 :: L) w') := by
  refine enter Tryz.func98 rfl Tryz.ntmps98 rfl (W.seq (W.region (WL.eff (eff_box (v := .int .u64 _) (l := [.int .u64 _]) h rfl rfl) rfl rfl ?_)))
  rintro _ w ⟨b8, rfl, h⟩
  refine WL.eff (eff_alloc h Tryz.zeroValue36 rfl) rfl rfl ?_
  rintro _ w ⟨b10, rfl, h⟩
  refine WL.val run_assign rfl rfl (WL.nil (W.seq (W.seq (W.region (WL.val run_move rfl rfl (WL.val run_move rfl rfl (WL.val run_move rfl rfl ?_)))))))
  refine WL.eff (eff_call Tryz.call142 (umay_ok (i := ii) hi (h.fetch (blk b t.cells 152)))) rfl rfl ?_
  rintro _ w ⟨hv, h⟩
  rcases hv with ⟨hok, rfl⟩ | ⟨hok, rfl⟩
  ·
   refine WL.val run_move rfl rfl (WL.val (run_extract rfl rfl) rfl rfl (WL.val (run_extract rfl rfl) rfl rfl (WL.eff (eff_alloc h Tryz.zeroValue36 rfl) rfl rfl ?_)))
   rintro _ w ⟨b12, rfl, h⟩
   refine WL.eff (eff_storeW (vs := [.int .i64 _, .int .i64 _, .int .i64 _, .slice _ _ _, .int .i64 _]) h Tryz.sizeOf36 rfl rfl rfl rfl rfl) rfl rfl ?_
   rintro _ w h
   refine WL.val run_assign rfl rfl (WL.nil (W.seq (W.region (WL.val run_move rfl rfl (WL.val (run_not rfl) rfl rfl (WL.nil (W.condF rfl ?_)))))))
   refine W.skip (W.seq (W.seq (W.region (WL.val (run_load1 Tryz.isAgg23 rfl (h.cellB rfl)) rfl rfl (WL.val (run_eql rfl rfl) rfl rfl (WL.nil ?_))))))
   refine W.condIf rfl (fun c8 => ?_) (fun c8 => ?_)
   ·
    refine W.seq (W.region (WL.eff (eff_call Tryz.call36 (wrong_ok h)) rfl rfl ?_))
    rintro _ w ⟨rfl, h⟩
    refine WL.eff (eff_storeW (vs := [.int .i64 _, .int .i64 _, .int .i64 _, .slice _ _ _, .int .i64 _]) h Tryz.sizeOf36 rfl rfl rfl rfl rfl) rfl rfl ?_
    rintro _ w h
    refine WL.val run_assign rfl rfl (WL.nil (W.ret (bodyQ.rctB (vs := [.int .i64 _, .int .i64 _, .int .i64 _, .slice _ _ _, .int .i64 _]) (v2 := .slice _ _ _) h Tryz.results98 Tryz.isAgg36 Tryz.sizeOf36 rfl rfl rfl rfl ?_)))
    have h : On W0 (Own 2 (.slice none 0 0) 0 (notesV 0 []) :: _) w := h.ownEmpty 2 none
    have e : preF t ii key other typ = ⟨t, plain 2 5 9728, [], 0⟩ := by unfold preF; rw [if_neg (by rw [hok]; decide), if_pos c8]
    rw [e]
    dsimp only
    exact ⟨none, 0, rfl, h.to⟩
   refine W.skip (W.seq (W.region (WL.val run_move rfl rfl (WL.val run_move rfl rfl (WL.val run_makeFunc rfl rfl (WL.eff (eff_call Tryz.call143 (others_ok (t := t) (b := b) (hh := (ii : Int)) (code := 10757) (f := 145) (caps := #[.pointer (some ⟨b8, 0, none⟩)]) (p := fun k => decide (k = other)) (h.fetch (blk b t.cells 152)) Tryz.call145 (fun k A w h => preempt1_ok h))) rfl rfl ?_))))))
   rintro _ w ⟨a, hv, h⟩
   have hv2 : _ = Value.slice a (preL t ii other).length (preL t ii other).length := hv
   subst hv2
   have h : On W0 (Own 2 (.slice a (preL t ii other).length (preL t ii other).length) (preL t ii other).length (notesV 10757 (preL t ii other)) :: _) w := h
   have hlen : (preL t ii other).length ≤ 8 := hostsN_len ..
   refine WL.val run_assign rfl rfl (WL.nil (W.seq (W.seq (W.region (WL.val run_move rfl rfl (WL.val (run_lenSlice Tryz.underlying157 rfl) rfl rfl (WL.val (run_eql rfl rfl) rfl rfl ?_)))))))
   refine WL.nil ?_
   refine W.condIf rfl (fun c14 => ?_) (fun c14 => ?_)
   ·
    refine W.seq (W.region (WL.eff (eff_call Tryz.call139 (conflict_ok h)) rfl rfl ?_))
    rintro _ w ⟨rfl, h⟩
    refine WL.eff (eff_storeW (vs := [.int .i64 _, .int .i64 _, .int .i64 _, .slice _ _ _, .int .i64 _]) h Tryz.sizeOf36 rfl rfl rfl rfl rfl) rfl rfl ?_
    rintro _ w h
    refine WL.val run_assign rfl rfl (WL.nil (W.ret (bodyQ.rctB (vs := [.int .i64 _, .int .i64 _, .int .i64 _, .slice _ _ _, .int .i64 _]) (v2 := .slice _ _ _) h Tryz.results98 Tryz.isAgg36 Tryz.sizeOf36 rfl rfl rfl rfl ?_)))
    have h : On W0 (Own 2 (.slice none 0 0) 0 (notesV 0 []) :: _) w := h.ownEmpty 2 none
    have e : preF t ii key other typ = ⟨t, plain 24 0 0, [], 0⟩ := by unfold preF; rw [if_neg (by rw [hok]; decide), if_neg c8, if_pos (List.eq_nil_of_length_eq_zero (by omega))]
    rw [e]
    dsimp only
    exact ⟨none, 0, rfl, h.to⟩
   refine W.skip (W.seq (W.seq ?_))
   refine W.draw Tryz.follows h (fun w h => ?_)
   refine WT.pure 0 rfl (by kernel_rfl) (fun w' => run_move) rfl rfl (WT.pure 1 rfl (by kernel_rfl) (fun w' => (run_nilCheck rfl)) rfl rfl (WT.pure 2 rfl (by kernel_rfl) (fun w' => (run_fieldAddr 8 Tryz.underlying152 rfl Tryz.sizeOf3 rfl rfl)) rfl rfl (WT.load1 3 rfl (by kernel_rfl) Tryz.isAgg3 rfl (h.cellB rfl) rfl rfl ?_)))
   refine WT.dec 4 rfl (by kernel_rfl) (fun w' => (run_neq rfl rfl)) rfl rfl (fun c42 => ?_) (fun c42 => ?_)
   ·
    refine WT.pure 5 rfl (by kernel_rfl) (fun w' => run_move) rfl rfl (WT.pure 6 rfl (by kernel_rfl) (fun w' => run_move) rfl rfl (WT.pure 7 rfl (by kernel_rfl) (fun w' => (run_nilCheck rfl)) rfl rfl (WT.pure 8 rfl (by kernel_rfl) (fun w' => (run_fieldAddr 8 Tryz.underlying152 rfl Tryz.sizeOf3 rfl rfl)) rfl rfl (WT.load1 9 rfl (by kernel_rfl) Tryz.isAgg3 rfl (h.cellB rfl) rfl rfl (WT.pure 10 rfl (by kernel_rfl) (fun w' => run_move) rfl rfl ?_)))))
    refine WT.dec 11 rfl (by kernel_rfl) (fun w' => (run_neq rfl rfl)) rfl rfl (fun c49 => ?_) (fun c49 => ?_)
    ·
     refine WT.pure 12 rfl (by kernel_rfl) (fun w' => (run_pickT rfl)) rfl rfl (WT.pure 13 rfl (by kernel_rfl) (fun w' => run_move) rfl rfl (WT.pure 14 rfl (by kernel_rfl) (fun w' => run_move) rfl rfl (WT.pure 15 rfl (by kernel_rfl) (fun w' => run_move) rfl rfl (WT.pure 16 rfl (by kernel_rfl) (fun w' => (run_nilCheck rfl)) rfl rfl (WT.pure 17 rfl (by kernel_rfl) (fun w' => (run_fieldAddr 8 Tryz.underlying152 rfl Tryz.sizeOf3 rfl rfl)) rfl rfl (WT.load1 18 rfl (by kernel_rfl) Tryz.isAgg3 rfl (h.cellB rfl) rfl rfl (WT.pure 19 rfl (by kernel_rfl) (fun w' => (run_nilCheck rfl)) rfl rfl ?_)))))))
     refine WT.pure 20 rfl (by kernel_rfl) (fun w' => (run_fieldAddr 0 Tryz.underlying152 rfl Tryz.sizeOf102 rfl rfl)) rfl rfl (WT.pure 21 rfl (by kernel_rfl) (fun w' => (run_indexAddrArr Tryz.underlying102 Tryz.sizeOf23 rfl rfl (by omega) (by omega))) rfl rfl (WT.load1 22 rfl (by kernel_rfl) Tryz.isAgg23 rfl (h.cellB (cells_atI (by omega) (by omega))) rfl rfl (WT.load1 23 rfl (by kernel_rfl) Tryz.isAgg23 rfl (h.cellB rfl) rfl rfl ?_)))
     refine WT.dec 24 rfl (by kernel_rfl) (fun w' => (run_eql rfl rfl)) rfl rfl (fun c62 => ?_) (fun c62 => ?_)
     ·
      refine WT.pure 25 rfl (by kernel_rfl) (fun w' => (run_pickT rfl)) rfl rfl (WT.done (by kernel_rfl) (W.condT rfl (W.seq (W.seq ?_))))
      have htk : takesP t ii other := ⟨c42, c49, c62⟩
      refine W.region (WL.val run_move rfl rfl (WL.eff (eff_call Tryz.call84 (typed_ok h)) rfl rfl ?_))
      rintro _ w ⟨hv, h⟩
      have hcs := Bool.eq_false_or_eq_true (typedB typ)
      rcases hcs with hty | hty <;> (rw [hty] at hv; subst hv)
      ·
       refine WL.val (run_not rfl) rfl rfl (WL.nil (W.condF rfl (W.skip (W.region (WL.val run_move rfl rfl (WL.val run_move rfl rfl (WL.val run_move rfl rfl ?_)))))))
       refine WL.val run_move rfl rfl (WL.val (run_nilCheck rfl) rfl rfl (WL.val (run_fieldAddr 8 Tryz.underlying152 rfl Tryz.sizeOf3 rfl rfl) rfl rfl (WL.eff (eff_store (v := .int .i64 _) h Tryz.sizeOf3 rfl rfl rfl rfl rfl) rfl rfl ?_)))
       rintro _ w h
       try simp only [Nat.zero_add, Nat.add_zero, List.set_cons_zero, List.set_cons_succ] at h
       refine WL.val (run_nilCheck rfl) rfl rfl (WL.val (run_fieldAddr 9 Tryz.underlying152 rfl Tryz.sizeOf3 rfl rfl) rfl rfl (WL.eff (eff_store (v := .int .i64 _) h Tryz.sizeOf3 rfl rfl rfl rfl rfl) rfl rfl ?_))
       rintro _ w h
       try simp only [Nat.zero_add, Nat.add_zero, List.set_cons_zero, List.set_cons_succ] at h
       refine WL.nil (W.seq ?_)
       have h := h.fetch (blk b ((t.cells.set (0 + 8) (.int .i64 ii)).set (0 + 9) (.int .i64 typ)) 152)
       have h : On W0 (blk b (t.take ii typ).cells 152 :: _) w := h
       refine W.region (WL.val run_move rfl rfl (WL.val (run_nilCheck rfl) rfl rfl (WL.val (run_fieldAddr 10 Tryz.underlying152 rfl Tryz.sizeOf126 rfl rfl) rfl rfl (WL.val (run_load1 Tryz.isAgg126 rfl (h.cellB rfl)) rfl rfl (WL.val (run_addW rfl rfl) rfl rfl (WL.val (run_nilCheck rfl) rfl rfl (WL.val (run_fieldAddr 10 Tryz.underlying152 rfl Tryz.sizeOf126 rfl rfl) rfl rfl ?_)))))))
       refine WL.eff (eff_store (v := .int .u32 _) h Tryz.sizeOf126 rfl rfl rfl rfl rfl) rfl rfl ?_
       rintro _ w h
       try simp only [Nat.zero_add, Nat.add_zero, List.set_cons_zero, List.set_cons_succ] at h
       refine WL.nil (W.seq (W.seq ?_))
       have et0 : preT0 t ii other typ = (t.take ii typ).inc := by unfold preT0; rw [if_pos htk]
       have h := h.fetch (blk b ((t.take ii typ).cells.set (0 + 10) (.int .u32 (IntKind.u32.wrap ((t.take ii typ).gen + 1)))) 152)
       have h : On W0 (blk b (t.take ii typ).inc.cells 152 :: _) w := h
       rw [← et0, ← zer_nil (preT0 t ii other typ)] at h
       have h : On W0 (Own 2 (.slice a (preL t ii other).length (preL t ii other).length) (preL t ii other).length (notesV 10757 (preL t ii other)) :: blk b (zer (preT0 t ii other typ) []).cells 152 :: blk b10 [.int .i64 0, .int .i64 0, .int .i64 0, .slice none 0 0, .int .i64 0] 36 :: L) w := h.to
       refine W.region (WL.val run_move rfl rfl (WL.val (run_lenSlice Tryz.underlying157 rfl) rfl rfl (WL.val run_move rfl rfl (WL.nil (W.block ?_)))))
       refine W.loop (fun (q : Nat) env w => ∃ j, env = mkE j [(0, .pointer (some ⟨b, 0, none⟩)), (1, .int .i64 (ii : Int)), (10, .pointer (some ⟨b10, 0, none⟩)), (14, .slice a (preL t ii other).length (preL t ii other).length), (83, .slice a (preL t ii other).length (preL t ii other).length), (84, .int .i64 (((preL t ii other).length : Nat) : Int)), (85, .int .i64 (q : Int))] ∧ q ≤ (preL t ii other).length ∧ On W0 (Own 2 (.slice a (preL t ii other).length (preL t ii other).length) (preL t ii other).length (notesV 10757 (preL t ii other)) :: blk b (zer (preT0 t ii other typ) ((preL t ii other).take q)).cells 152 :: blk b10 [.int .i64 0, .int .i64 0, .int .i64 0, .slice none 0 0, .int .i64 0] 36 :: L) w) (fun q => (preL t ii other).length - q) (0) ?_ ?_
       · exact ⟨_, mkE_of ⟨rfl, rfl, rfl, rfl, rfl, rfl, rfl, trivial⟩, Nat.zero_le _, h⟩
       rintro q env w ⟨j, rfl, hq, h⟩
       refine W.seq (W.region (WL.val (run_lss rfl rfl) rfl rfl (WL.nil (W.seq ?_))))
       refine W.condIf rfl (fun c32 => ?_) (fun c32 => ?_)
       ·
        refine W.skip (W.seq (W.block (W.seq ?_)))
        have hql : q < (preL t ii other).length := by omega
        have ob_ : ∃ i, (preL t ii other)[q]? = some i := ⟨(preL t ii other)[q], by simp⟩
        obtain ⟨i, hi⟩ := ob_
        have hi8 : i < 8 := (hostsN_mem.1 (List.mem_of_getElem? hi)).1
        have ob_ := Own.addr h (by omega)
        obtain ⟨bn, on, rfl⟩ := ob_
        refine W.region (WL.val (run_indexAddr Tryz.underlying157 Tryz.sizeOf207 rfl rfl (by omega) (by omega)) rfl rfl (WL.val (run_loadN Tryz.isAgg207 Tryz.sizeOf207 rfl rfl ((h.cellsO (v := .slice (some ⟨bn, on, none⟩) (preL t ii other).length (preL t ii other).length)).elem (i := q) (vs := noteV 10757 i) hql (drop_flatMap (noteV 10757) 2 (noteV_length 10757) (preL t ii other) _ _ hi))) rfl rfl (WL.eff (eff_alloc h Tryz.zeroValue207 rfl) rfl rfl ?_)))
        rintro _ w ⟨b16, rfl, h⟩
        refine WL.eff (eff_storeW (vs := [.int .i64 _, .int .i64 _]) h Tryz.sizeOf207 rfl rfl rfl rfl rfl) rfl rfl ?_
        rintro _ w h
        refine WL.nil ?_
        refine W.draw Tryz.follows h (fun w h => ?_)
        refine WT.pure 0 rfl (by kernel_rfl) (fun w' => run_move) rfl rfl (WT.pure 1 rfl (by kernel_rfl) (fun w' => (run_fieldAddr 0 Tryz.underlying207 rfl Tryz.sizeOf3 rfl rfl)) rfl rfl (WT.load1 2 rfl (by kernel_rfl) Tryz.isAgg3 rfl (h.cellB rfl) rfl rfl (WT.pure 3 rfl (by kernel_rfl) (fun w' => (run_nilCheck rfl)) rfl rfl (WT.pure 4 rfl (by kernel_rfl) (fun w' => (run_fieldAddr 0 Tryz.underlying152 rfl Tryz.sizeOf102 rfl rfl)) rfl rfl (WT.pure 5 rfl (by kernel_rfl) (fun w' => (run_indexAddrArr Tryz.underlying102 Tryz.sizeOf23 rfl rfl (by omega) (by omega))) rfl rfl (WT.eff 6 [false] rfl (by kernel_rfl) (by kernel_rfl) (eff_store (v := .int .u64 _) h Tryz.sizeOf23 rfl rfl rfl (cells_lt hi8) (free0 _)) rfl rfl ?_))))))
        rintro _ w h
        rw [cells_set hi8, ← zer_snoc, ← RsM.take_snoc hi] at h
        refine ⟨trivial, ?_⟩
        refine WT.done (by kernel_rfl) (W.region (WL.val (run_incN rfl rfl (by omega)) rfl rfl (WL.val run_move rfl rfl (WL.nil ?_))))
        exact ⟨q + 1, ⟨_, mkE_of ⟨rfl, rfl, rfl, rfl, rfl, rfl, rfl, trivial⟩, by omega, h.to⟩, by show (preL t ii other).length - (q + 1) < (preL t ii other).length - q; omega⟩
       refine W.exit (W.seq (W.region (WL.eff (eff_call Tryz.call141 (good_ok h)) rfl rfl ?_)))
       rintro _ w ⟨rfl, h⟩
       refine WL.val run_move rfl rfl (WL.eff (eff_storeW (vs := [.int .i64 _, .int .i64 _, .int .i64 _, .slice _ _ _, .int .i64 _]) h Tryz.sizeOf36 rfl rfl rfl rfl rfl) rfl rfl ?_)
       rintro _ w h
       refine WL.val run_assign rfl rfl (WL.nil (W.ret (bodyQ.rctB (vs := [.int .i64 _, .int .i64 _, .int .i64 _, .slice _ _ _, .int .i64 _]) (v2 := .slice _ _ _) h Tryz.results98 Tryz.isAgg36 Tryz.sizeOf36 rfl rfl rfl rfl ?_)))
       have ob_ : q = (preL t ii other).length := by omega
       obtain rfl := ob_
       rw [List.take_length] at h
       have h : On W0 (Own 2 (.slice a (preL t ii other).length (preL t ii other).length) (preL t ii other).length (notesV 10757 (preL t ii other)) :: blk b (preT t ii other typ).cells 152 :: _) w := h
       have e : preF t ii key other typ = ⟨preT t ii other typ, plain 0 0 0, preL t ii other, 10757⟩ := by unfold preF; rw [if_neg (by rw [hok]; decide), if_neg c8, if_neg (fun e => c14 (by rw [e]; rfl)), if_neg (fun hx => by rw [hx.2] at hty; cases hty)]
       rw [e]
       dsimp only
       exact ⟨a, (preL t ii other).length, rfl, h.to⟩
      refine WL.val (run_not rfl) rfl rfl (WL.nil (W.condT rfl (W.seq (W.region (WL.eff (eff_call Tryz.call138 (field_ok h)) rfl rfl ?_)))))
      rintro _ w ⟨rfl, h⟩
      refine WL.eff (eff_storeW (vs := [.int .i64 _, .int .i64 _, .int .i64 _, .slice _ _ _, .int .i64 _]) h Tryz.sizeOf36 rfl rfl rfl rfl rfl) rfl rfl ?_
      rintro _ w h
      refine WL.val run_assign rfl rfl (WL.nil (W.ret (bodyQ.rctB (vs := [.int .i64 _, .int .i64 _, .int .i64 _, .slice _ _ _, .int .i64 _]) (v2 := .slice _ _ _) h Tryz.results98 Tryz.isAgg36 Tryz.sizeOf36 rfl rfl rfl rfl ?_)))
      have h : On W0 (Own 2 (.slice none 0 0) 0 (notesV 0 []) :: _) w := h.ownEmpty 2 none
      have e : preF t ii key other typ = ⟨t, plain 2 5 9216, [], 0⟩ := by unfold preF; rw [if_neg (by rw [hok]; decide), if_neg c8, if_neg (fun e => c14 (by rw [e]; rfl)), if_pos ⟨htk, hty⟩]
      rw [e]
      dsimp only
      exact ⟨none, 0, rfl, h.to⟩
     refine WT.pure 25 rfl (by kernel_rfl) (fun w' => (run_pickT rfl)) rfl rfl (WT.done (by kernel_rfl) (W.condF rfl (W.skip (W.seq ?_))))
     have htk : ¬ takesP t ii other := fun hx => c62 hx.2.2
     refine W.region (WL.val run_move rfl rfl (WL.val (run_nilCheck rfl) rfl rfl (WL.val (run_fieldAddr 10 Tryz.underlying152 rfl Tryz.sizeOf126 rfl rfl) rfl rfl (WL.val (run_load1 Tryz.isAgg126 rfl (h.cellB rfl)) rfl rfl (WL.val (run_addW rfl rfl) rfl rfl (WL.val (run_nilCheck rfl) rfl rfl (WL.val (run_fieldAddr 10 Tryz.underlying152 rfl Tryz.sizeOf126 rfl rfl) rfl rfl ?_)))))))
     refine WL.eff (eff_store (v := .int .u32 _) h Tryz.sizeOf126 rfl rfl rfl rfl rfl) rfl rfl ?_
     rintro _ w h
     try simp only [Nat.zero_add, Nat.add_zero, List.set_cons_zero, List.set_cons_succ] at h
     refine WL.nil (W.seq (W.seq ?_))
     have et0 : preT0 t ii other typ = t.inc := by unfold preT0; rw [if_neg htk]
     have h := h.fetch (blk b (t.cells.set (0 + 10) (.int .u32 (IntKind.u32.wrap (t.gen + 1)))) 152)
     have h : On W0 (blk b t.inc.cells 152 :: _) w := h
     rw [← et0, ← zer_nil (preT0 t ii other typ)] at h
     have h : On W0 (Own 2 (.slice a (preL t ii other).length (preL t ii other).length) (preL t ii other).length (notesV 10757 (preL t ii other)) :: blk b (zer (preT0 t ii other typ) []).cells 152 :: blk b10 [.int .i64 0, .int .i64 0, .int .i64 0, .slice none 0 0, .int .i64 0] 36 :: L) w := h.to
     refine W.region (WL.val run_move rfl rfl (WL.val (run_lenSlice Tryz.underlying157 rfl) rfl rfl (WL.val run_move rfl rfl (WL.nil (W.block ?_)))))
     refine W.loop (fun (q : Nat) env w => ∃ j, env = mkE j [(0, .pointer (some ⟨b, 0, none⟩)), (1, .int .i64 (ii : Int)), (10, .pointer (some ⟨b10, 0, none⟩)), (14, .slice a (preL t ii other).length (preL t ii other).length), (83, .slice a (preL t ii other).length (preL t ii other).length), (84, .int .i64 (((preL t ii other).length : Nat) : Int)), (85, .int .i64 (q : Int))] ∧ q ≤ (preL t ii other).length ∧ On W0 (Own 2 (.slice a (preL t ii other).length (preL t ii other).length) (preL t ii other).length (notesV 10757 (preL t ii other)) :: blk b (zer (preT0 t ii other typ) ((preL t ii other).take q)).cells 152 :: blk b10 [.int .i64 0, .int .i64 0, .int .i64 0, .slice none 0 0, .int .i64 0] 36 :: L) w) (fun q => (preL t ii other).length - q) (0) ?_ ?_
     · exact ⟨_, mkE_of ⟨rfl, rfl, rfl, rfl, rfl, rfl, rfl, trivial⟩, Nat.zero_le _, h⟩
     rintro q env w ⟨j, rfl, hq, h⟩
     refine W.seq (W.region (WL.val (run_lss rfl rfl) rfl rfl (WL.nil (W.seq ?_))))
     refine W.condIf rfl (fun c32 => ?_) (fun c32 => ?_)
     ·
      refine W.skip (W.seq (W.block (W.seq ?_)))
      have hql : q < (preL t ii other).length := by omega
      have ob_ : ∃ i, (preL t ii other)[q]? = some i := ⟨(preL t ii other)[q], by simp⟩
      obtain ⟨i, hi⟩ := ob_
      have hi8 : i < 8 := (hostsN_mem.1 (List.mem_of_getElem? hi)).1
      have ob_ := Own.addr h (by omega)
      obtain ⟨bn, on, rfl⟩ := ob_
      refine W.region (WL.val (run_indexAddr Tryz.underlying157 Tryz.sizeOf207 rfl rfl (by omega) (by omega)) rfl rfl (WL.val (run_loadN Tryz.isAgg207 Tryz.sizeOf207 rfl rfl ((h.cellsO (v := .slice (some ⟨bn, on, none⟩) (preL t ii other).length (preL t ii other).length)).elem (i := q) (vs := noteV 10757 i) hql (drop_flatMap (noteV 10757) 2 (noteV_length 10757) (preL t ii other) _ _ hi))) rfl rfl (WL.eff (eff_alloc h Tryz.zeroValue207 rfl) rfl rfl ?_)))
      rintro _ w ⟨b16, rfl, h⟩
      refine WL.eff (eff_storeW (vs := [.int .i64 _, .int .i64 _]) h Tryz.sizeOf207 rfl rfl rfl rfl rfl) rfl rfl ?_
      rintro _ w h
      refine WL.nil ?_
      refine W.draw Tryz.follows h (fun w h => ?_)
      refine WT.pure 0 rfl (by kernel_rfl) (fun w' => run_move) rfl rfl (WT.pure 1 rfl (by kernel_rfl) (fun w' => (run_fieldAddr 0 Tryz.underlying207 rfl Tryz.sizeOf3 rfl rfl)) rfl rfl (WT.load1 2 rfl (by kernel_rfl) Tryz.isAgg3 rfl (h.cellB rfl) rfl rfl (WT.pure 3 rfl (by kernel_rfl) (fun w' => (run_nilCheck rfl)) rfl rfl (WT.pure 4 rfl (by kernel_rfl) (fun w' => (run_fieldAddr 0 Tryz.underlying152 rfl Tryz.sizeOf102 rfl rfl)) rfl rfl (WT.pure 5 rfl (by kernel_rfl) (fun w' => (run_indexAddrArr Tryz.underlying102 Tryz.sizeOf23 rfl rfl (by omega) (by omega))) rfl rfl (WT.eff 6 [false] rfl (by kernel_rfl) (by kernel_rfl) (eff_store (v := .int .u64 _) h Tryz.sizeOf23 rfl rfl rfl (cells_lt hi8) (free0 _)) rfl rfl ?_))))))
      rintro _ w h
      rw [cells_set hi8, ← zer_snoc, ← RsM.take_snoc hi] at h
      refine ⟨trivial, ?_⟩
      refine WT.done (by kernel_rfl) (W.region (WL.val (run_incN rfl rfl (by omega)) rfl rfl (WL.val run_move rfl rfl (WL.nil ?_))))
      exact ⟨q + 1, ⟨_, mkE_of ⟨rfl, rfl, rfl, rfl, rfl, rfl, rfl, trivial⟩, by omega, h.to⟩, by show (preL t ii other).length - (q + 1) < (preL t ii other).length - q; omega⟩
     refine W.exit (W.seq (W.region (WL.eff (eff_call Tryz.call141 (good_ok h)) rfl rfl ?_)))
     rintro _ w ⟨rfl, h⟩
     refine WL.val run_move rfl rfl (WL.eff (eff_storeW (vs := [.int .i64 _, .int .i64 _, .int .i64 _, .slice _ _ _, .int .i64 _]) h Tryz.sizeOf36 rfl rfl rfl rfl rfl) rfl rfl ?_)
     rintro _ w h
     refine WL.val run_assign rfl rfl (WL.nil (W.ret (bodyQ.rctB (vs := [.int .i64 _, .int .i64 _, .int .i64 _, .slice _ _ _, .int .i64 _]) (v2 := .slice _ _ _) h Tryz.results98 Tryz.isAgg36 Tryz.sizeOf36 rfl rfl rfl rfl ?_)))
     have ob_ : q = (preL t ii other).length := by omega
     obtain rfl := ob_
     rw [List.take_length] at h
     have h : On W0 (Own 2 (.slice a (preL t ii other).length (preL t ii other).length) (preL t ii other).length (notesV 10757 (preL t ii other)) :: blk b (preT t ii other typ).cells 152 :: _) w := h
     have e : preF t ii key other typ = ⟨preT t ii other typ, plain 0 0 0, preL t ii other, 10757⟩ := by unfold preF; rw [if_neg (by rw [hok]; decide), if_neg c8, if_neg (fun e => c14 (by rw [e]; rfl)), if_neg (fun hx => htk hx.1)]
     rw [e]
     dsimp only
     exact ⟨a, (preL t ii other).length, rfl, h.to⟩
    refine WT.pure 12 rfl (by kernel_rfl) (fun w' => (run_pickT rfl)) rfl rfl (WT.pure 13 rfl (by kernel_rfl) (fun w' => run_move) rfl rfl (WT.skip 14 rfl (by kernel_rfl) rfl rfl (WT.skip 15 rfl (by kernel_rfl) rfl rfl (WT.skip 16 rfl (by kernel_rfl) rfl rfl (WT.skip 17 rfl (by kernel_rfl) rfl rfl (WT.skip 18 rfl (by kernel_rfl) rfl rfl (WT.skip 19 rfl (by kernel_rfl) rfl rfl ?_)))))))
    refine WT.skip 20 rfl (by kernel_rfl) rfl rfl (WT.skip 21 rfl (by kernel_rfl) rfl rfl (WT.skip 22 rfl (by kernel_rfl) rfl rfl (WT.skip 23 rfl (by kernel_rfl) rfl rfl (WT.skip 24 rfl (by kernel_rfl) rfl rfl (WT.pure 25 rfl (by kernel_rfl) (fun w' => (run_pickF rfl)) rfl rfl (WT.done (by kernel_rfl) (W.condF rfl ?_)))))))
    refine W.skip (W.seq ?_)
    have htk : ¬ takesP t ii other := fun hx => c49 hx.2.1
    refine W.region (WL.val run_move rfl rfl (WL.val (run_nilCheck rfl) rfl rfl (WL.val (run_fieldAddr 10 Tryz.underlying152 rfl Tryz.sizeOf126 rfl rfl) rfl rfl (WL.val (run_load1 Tryz.isAgg126 rfl (h.cellB rfl)) rfl rfl (WL.val (run_addW rfl rfl) rfl rfl (WL.val (run_nilCheck rfl) rfl rfl (WL.val (run_fieldAddr 10 Tryz.underlying152 rfl Tryz.sizeOf126 rfl rfl) rfl rfl ?_)))))))
    refine WL.eff (eff_store (v := .int .u32 _) h Tryz.sizeOf126 rfl rfl rfl rfl rfl) rfl rfl ?_
    rintro _ w h
    try simp only [Nat.zero_add, Nat.add_zero, List.set_cons_zero, List.set_cons_succ] at h
    refine WL.nil (W.seq (W.seq ?_))
    have et0 : preT0 t ii other typ = t.inc := by unfold preT0; rw [if_neg htk]
    have h := h.fetch (blk b (t.cells.set (0 + 10) (.int .u32 (IntKind.u32.wrap (t.gen + 1)))) 152)
    have h : On W0 (blk b t.inc.cells 152 :: _) w := h
    rw [← et0, ← zer_nil (preT0 t ii other typ)] at h
    have h : On W0 (Own 2 (.slice a (preL t ii other).length (preL t ii other).length) (preL t ii other).length (notesV 10757 (preL t ii other)) :: blk b (zer (preT0 t ii other typ) []).cells 152 :: blk b10 [.int .i64 0, .int .i64 0, .int .i64 0, .slice none 0 0, .int .i64 0] 36 :: L) w := h.to
    refine W.region (WL.val run_move rfl rfl (WL.val (run_lenSlice Tryz.underlying157 rfl) rfl rfl (WL.val run_move rfl rfl (WL.nil (W.block ?_)))))
    refine W.loop (fun (q : Nat) env w => ∃ j, env = mkE j [(0, .pointer (some ⟨b, 0, none⟩)), (1, .int .i64 (ii : Int)), (10, .pointer (some ⟨b10, 0, none⟩)), (14, .slice a (preL t ii other).length (preL t ii other).length), (83, .slice a (preL t ii other).length (preL t ii other).length), (84, .int .i64 (((preL t ii other).length : Nat) : Int)), (85, .int .i64 (q : Int))] ∧ q ≤ (preL t ii other).length ∧ On W0 (Own 2 (.slice a (preL t ii other).length (preL t ii other).length) (preL t ii other).length (notesV 10757 (preL t ii other)) :: blk b (zer (preT0 t ii other typ) ((preL t ii other).take q)).cells 152 :: blk b10 [.int .i64 0, .int .i64 0, .int .i64 0, .slice none 0 0, .int .i64 0] 36 :: L) w) (fun q => (preL t ii other).length - q) (0) ?_ ?_
    · exact ⟨_, mkE_of ⟨rfl, rfl, rfl, rfl, rfl, rfl, rfl, trivial⟩, Nat.zero_le _, h⟩
    rintro q env w ⟨j, rfl, hq, h⟩
    refine W.seq (W.region (WL.val (run_lss rfl rfl) rfl rfl (WL.nil (W.seq ?_))))
    refine W.condIf rfl (fun c32 => ?_) (fun c32 => ?_)
    ·
     refine W.skip (W.seq (W.block (W.seq ?_)))
     have hql : q < (preL t ii other).length := by omega
     have ob_ : ∃ i, (preL t ii other)[q]? = some i := ⟨(preL t ii other)[q], by simp⟩
     obtain ⟨i, hi⟩ := ob_
     have hi8 : i < 8 := (hostsN_mem.1 (List.mem_of_getElem? hi)).1
     have ob_ := Own.addr h (by omega)
     obtain ⟨bn, on, rfl⟩ := ob_
     refine W.region (WL.val (run_indexAddr Tryz.underlying157 Tryz.sizeOf207 rfl rfl (by omega) (by omega)) rfl rfl (WL.val (run_loadN Tryz.isAgg207 Tryz.sizeOf207 rfl rfl ((h.cellsO (v := .slice (some ⟨bn, on, none⟩) (preL t ii other).length (preL t ii other).length)).elem (i := q) (vs := noteV 10757 i) hql (drop_flatMap (noteV 10757) 2 (noteV_length 10757) (preL t ii other) _ _ hi))) rfl rfl (WL.eff (eff_alloc h Tryz.zeroValue207 rfl) rfl rfl ?_)))
     rintro _ w ⟨b16, rfl, h⟩
     refine WL.eff (eff_storeW (vs := [.int .i64 _, .int .i64 _]) h Tryz.sizeOf207 rfl rfl rfl rfl rfl) rfl rfl ?_
     rintro _ w h
     refine WL.nil ?_
     refine W.draw Tryz.follows h (fun w h => ?_)
     refine WT.pure 0 rfl (by kernel_rfl) (fun w' => run_move) rfl rfl (WT.pure 1 rfl (by kernel_rfl) (fun w' => (run_fieldAddr 0 Tryz.underlying207 rfl Tryz.sizeOf3 rfl rfl)) rfl rfl (WT.load1 2 rfl (by kernel_rfl) Tryz.isAgg3 rfl (h.cellB rfl) rfl rfl (WT.pure 3 rfl (by kernel_rfl) (fun w' => (run_nilCheck rfl)) rfl rfl (WT.pure 4 rfl (by kernel_rfl) (fun w' => (run_fieldAddr 0 Tryz.underlying152 rfl Tryz.sizeOf102 rfl rfl)) rfl rfl (WT.pure 5 rfl (by kernel_rfl) (fun w' => (run_indexAddrArr Tryz.underlying102 Tryz.sizeOf23 rfl rfl (by omega) (by omega))) rfl rfl (WT.eff 6 [false] rfl (by kernel_rfl) (by kernel_rfl) (eff_store (v := .int .u64 _) h Tryz.sizeOf23 rfl rfl rfl (cells_lt hi8) (free0 _)) rfl rfl ?_))))))
     rintro _ w h
     rw [cells_set hi8, ← zer_snoc, ← RsM.take_snoc hi] at h
     refine ⟨trivial, ?_⟩
     refine WT.done (by kernel_rfl) (W.region (WL.val (run_incN rfl rfl (by omega)) rfl rfl (WL.val run_move rfl rfl (WL.nil ?_))))
     exact ⟨q + 1, ⟨_, mkE_of ⟨rfl, rfl, rfl, rfl, rfl, rfl, rfl, trivial⟩, by omega, h.to⟩, by show (preL t ii other).length - (q + 1) < (preL t ii other).length - q; omega⟩
    refine W.exit (W.seq (W.region (WL.eff (eff_call Tryz.call141 (good_ok h)) rfl rfl ?_)))
    rintro _ w ⟨rfl, h⟩
    refine WL.val run_move rfl rfl (WL.eff (eff_storeW (vs := [.int .i64 _, .int .i64 _, .int .i64 _, .slice _ _ _, .int .i64 _]) h Tryz.sizeOf36 rfl rfl rfl rfl rfl) rfl rfl ?_)
    rintro _ w h
    refine WL.val run_assign rfl rfl (WL.nil (W.ret (bodyQ.rctB (vs := [.int .i64 _, .int .i64 _, .int .i64 _, .slice _ _ _, .int .i64 _]) (v2 := .slice _ _ _) h Tryz.results98 Tryz.isAgg36 Tryz.sizeOf36 rfl rfl rfl rfl ?_)))
    have ob_ : q = (preL t ii other).length := by omega
    obtain rfl := ob_
    rw [List.take_length] at h
    have h : On W0 (Own 2 (.slice a (preL t ii other).length (preL t ii other).length) (preL t ii other).length (notesV 10757 (preL t ii other)) :: blk b (preT t ii other typ).cells 152 :: _) w := h
    have e : preF t ii key other typ = ⟨preT t ii other typ, plain 0 0 0, preL t ii other, 10757⟩ := by unfold preF; rw [if_neg (by rw [hok]; decide), if_neg c8, if_neg (fun e => c14 (by rw [e]; rfl)), if_neg (fun hx => htk hx.1)]
    rw [e]
    dsimp only
    exact ⟨a, (preL t ii other).length, rfl, h.to⟩
   refine WT.pure 5 rfl (by kernel_rfl) (fun w' => run_move) rfl rfl (WT.skip 6 rfl (by kernel_rfl) rfl rfl (WT.skip 7 rfl (by kernel_rfl) rfl rfl (WT.skip 8 rfl (by kernel_rfl) rfl rfl (WT.skip 9 rfl (by kernel_rfl) rfl rfl (WT.skip 10 rfl (by kernel_rfl) rfl rfl (WT.skip 11 rfl (by kernel_rfl) rfl rfl (WT.pure 12 rfl (by kernel_rfl) (fun w' => (run_pickF rfl)) rfl rfl ?_)))))))
   refine WT.pure 13 rfl (by kernel_rfl) (fun w' => run_move) rfl rfl (WT.skip 14 rfl (by kernel_rfl) rfl rfl (WT.skip 15 rfl (by kernel_rfl) rfl rfl (WT.skip 16 rfl (by kernel_rfl) rfl rfl (WT.skip 17 rfl (by kernel_rfl) rfl rfl (WT.skip 18 rfl (by kernel_rfl) rfl rfl (WT.skip 19 rfl (by kernel_rfl) rfl rfl (WT.skip 20 rfl (by kernel_rfl) rfl rfl ?_)))))))
   refine WT.skip 21 rfl (by kernel_rfl) rfl rfl (WT.skip 22 rfl (by kernel_rfl) rfl rfl (WT.skip 23 rfl (by kernel_rfl) rfl rfl (WT.skip 24 rfl (by kernel_rfl) rfl rfl (WT.pure 25 rfl (by kernel_rfl) (fun w' => (run_pickF rfl)) rfl rfl (WT.done (by kernel_rfl) (W.condF rfl (W.skip ?_)))))))
   refine W.seq ?_
   have htk : ¬ takesP t ii other := fun hx => c42 hx.1
   refine W.region (WL.val run_move rfl rfl (WL.val (run_nilCheck rfl) rfl rfl (WL.val (run_fieldAddr 10 Tryz.underlying152 rfl Tryz.sizeOf126 rfl rfl) rfl rfl (WL.val (run_load1 Tryz.isAgg126 rfl (h.cellB rfl)) rfl rfl (WL.val (run_addW rfl rfl) rfl rfl (WL.val (run_nilCheck rfl) rfl rfl (WL.val (run_fieldAddr 10 Tryz.underlying152 rfl Tryz.sizeOf126 rfl rfl) rfl rfl ?_)))))))
   refine WL.eff (eff_store (v := .int .u32 _) h Tryz.sizeOf126 rfl rfl rfl rfl rfl) rfl rfl ?_
   rintro _ w h
   try simp only [Nat.zero_add, Nat.add_zero, List.set_cons_zero, List.set_cons_succ] at h
   refine WL.nil (W.seq (W.seq ?_))
   have et0 : preT0 t ii other typ = t.inc := by unfold preT0; rw [if_neg htk]
   have h := h.fetch (blk b (t.cells.set (0 + 10) (.int .u32 (IntKind.u32.wrap (t.gen + 1)))) 152)
   have h : On W0 (blk b t.inc.cells 152 :: _) w := h
   rw [← et0, ← zer_nil (preT0 t ii other typ)] at h
   have h : On W0 (Own 2 (.slice a (preL t ii other).length (preL t ii other).length) (preL t ii other).length (notesV 10757 (preL t ii other)) :: blk b (zer (preT0 t ii other typ) []).cells 152 :: blk b10 [.int .i64 0, .int .i64 0, .int .i64 0, .slice none 0 0, .int .i64 0] 36 :: L) w := h.to
   refine W.region (WL.val run_move rfl rfl (WL.val (run_lenSlice Tryz.underlying157 rfl) rfl rfl (WL.val run_move rfl rfl (WL.nil (W.block ?_)))))
   refine W.loop (fun (q : Nat) env w => ∃ j, env = mkE j [(0, .pointer (some ⟨b, 0, none⟩)), (1, .int .i64 (ii : Int)), (10, .pointer (some ⟨b10, 0, none⟩)), (14, .slice a (preL t ii other).length (preL t ii other).length), (83, .slice a (preL t ii other).length (preL t ii other).length), (84, .int .i64 (((preL t ii other).length : Nat) : Int)), (85, .int .i64 (q : Int))] ∧ q ≤ (preL t ii other).length ∧ On W0 (Own 2 (.slice a (preL t ii other).length (preL t ii other).length) (preL t ii other).length (notesV 10757 (preL t ii other)) :: blk b (zer (preT0 t ii other typ) ((preL t ii other).take q)).cells 152 :: blk b10 [.int .i64 0, .int .i64 0, .int .i64 0, .slice none 0 0, .int .i64 0] 36 :: L) w) (fun q => (preL t ii other).length - q) (0) ?_ ?_
   · exact ⟨_, mkE_of ⟨rfl, rfl, rfl, rfl, rfl, rfl, rfl, trivial⟩, Nat.zero_le _, h⟩
   rintro q env w ⟨j, rfl, hq, h⟩
   refine W.seq (W.region (WL.val (run_lss rfl rfl) rfl rfl (WL.nil (W.seq ?_))))
   refine W.condIf rfl (fun c32 => ?_) (fun c32 => ?_)
   ·
    refine W.skip (W.seq (W.block (W.seq ?_)))
    have hql : q < (preL t ii other).length := by omega
    have ob_ : ∃ i, (preL t ii other)[q]? = some i := ⟨(preL t ii other)[q], by simp⟩
    obtain ⟨i, hi⟩ := ob_
    have hi8 : i < 8 := (hostsN_mem.1 (List.mem_of_getElem? hi)).1
    have ob_ := Own.addr h (by omega)
    obtain ⟨bn, on, rfl⟩ := ob_
    refine W.region (WL.val (run_indexAddr Tryz.underlying157 Tryz.sizeOf207 rfl rfl (by omega) (by omega)) rfl rfl (WL.val (run_loadN Tryz.isAgg207 Tryz.sizeOf207 rfl rfl ((h.cellsO (v := .slice (some ⟨bn, on, none⟩) (preL t ii other).length (preL t ii other).length)).elem (i := q) (vs := noteV 10757 i) hql (drop_flatMap (noteV 10757) 2 (noteV_length 10757) (preL t ii other) _ _ hi))) rfl rfl (WL.eff (eff_alloc h Tryz.zeroValue207 rfl) rfl rfl ?_)))
    rintro _ w ⟨b16, rfl, h⟩
    refine WL.eff (eff_storeW (vs := [.int .i64 _, .int .i64 _]) h Tryz.sizeOf207 rfl rfl rfl rfl rfl) rfl rfl ?_
    rintro _ w h
    refine WL.nil ?_
    refine W.draw Tryz.follows h (fun w h => ?_)
    refine WT.pure 0 rfl (by kernel_rfl) (fun w' => run_move) rfl rfl (WT.pure 1 rfl (by kernel_rfl) (fun w' => (run_fieldAddr 0 Tryz.underlying207 rfl Tryz.sizeOf3 rfl rfl)) rfl rfl (WT.load1 2 rfl (by kernel_rfl) Tryz.isAgg3 rfl (h.cellB rfl) rfl rfl (WT.pure 3 rfl (by kernel_rfl) (fun w' => (run_nilCheck rfl)) rfl rfl (WT.pure 4 rfl (by kernel_rfl) (fun w' => (run_fieldAddr 0 Tryz.underlying152 rfl Tryz.sizeOf102 rfl rfl)) rfl rfl (WT.pure 5 rfl (by kernel_rfl) (fun w' => (run_indexAddrArr Tryz.underlying102 Tryz.sizeOf23 rfl rfl (by omega) (by omega))) rfl rfl (WT.eff 6 [false] rfl (by kernel_rfl) (by kernel_rfl) (eff_store (v := .int .u64 _) h Tryz.sizeOf23 rfl rfl rfl (cells_lt hi8) (free0 _)) rfl rfl ?_))))))
    rintro _ w h
    rw [cells_set hi8, ← zer_snoc, ← RsM.take_snoc hi] at h
    refine ⟨trivial, ?_⟩
    refine WT.done (by kernel_rfl) (W.region (WL.val (run_incN rfl rfl (by omega)) rfl rfl (WL.val run_move rfl rfl (WL.nil ?_))))
    exact ⟨q + 1, ⟨_, mkE_of ⟨rfl, rfl, rfl, rfl, rfl, rfl, rfl, trivial⟩, by omega, h.to⟩, by show (preL t ii other).length - (q + 1) < (preL t ii other).length - q; omega⟩
   refine W.exit (W.seq (W.region (WL.eff (eff_call Tryz.call141 (good_ok h)) rfl rfl ?_)))
   rintro _ w ⟨rfl, h⟩
   refine WL.val run_move rfl rfl (WL.eff (eff_storeW (vs := [.int .i64 _, .int .i64 _, .int .i64 _, .slice _ _ _, .int .i64 _]) h Tryz.sizeOf36 rfl rfl rfl rfl rfl) rfl rfl ?_)
   rintro _ w h
   refine WL.val run_assign rfl rfl (WL.nil (W.ret (bodyQ.rctB (vs := [.int .i64 _, .int .i64 _, .int .i64 _, .slice _ _ _, .int .i64 _]) (v2 := .slice _ _ _) h Tryz.results98 Tryz.isAgg36 Tryz.sizeOf36 rfl rfl rfl rfl ?_)))
   have ob_ : q = (preL t ii other).length := by omega
   obtain rfl := ob_
   rw [List.take_length] at h
   have h : On W0 (Own 2 (.slice a (preL t ii other).length (preL t ii other).length) (preL t ii other).length (notesV 10757 (preL t ii other)) :: blk b (preT t ii other typ).cells 152 :: _) w := h
   have e : preF t ii key other typ = ⟨preT t ii other typ, plain 0 0 0, preL t ii other, 10757⟩ := by unfold preF; rw [if_neg (by rw [hok]; decide), if_neg c8, if_neg (fun e => c14 (by rw [e]; rfl)), if_neg (fun hx => htk hx.1)]
   rw [e]
   dsimp only
   exact ⟨a, (preL t ii other).length, rfl, h.to⟩
  refine WL.val run_move rfl rfl (WL.val (run_extract rfl rfl) rfl rfl (WL.val (run_extract rfl rfl) rfl rfl (WL.eff (eff_alloc h Tryz.zeroValue36 rfl) rfl rfl ?_)))
  rintro _ w ⟨b12, rfl, h⟩
  refine WL.eff (eff_storeW (vs := [.int .i64 _, .int .i64 _, .int .i64 _, .slice _ _ _, .int .i64 _]) h Tryz.sizeOf36 rfl rfl rfl rfl rfl) rfl rfl ?_
  rintro _ w h
  refine WL.val run_assign rfl rfl (WL.nil (W.seq (W.region (WL.val run_move rfl rfl (WL.val (run_not rfl) rfl rfl (WL.nil (W.condT rfl ?_)))))))
  refine W.seq (W.region (WL.val (run_loadB (vs := [.int .i64 _, .int .i64 _, .int .i64 _, .slice _ _ _, .int .i64 _]) h Tryz.isAgg36 Tryz.sizeOf36 rfl rfl rfl) rfl rfl (WL.eff (eff_storeW (vs := [.int .i64 _, .int .i64 _, .int .i64 _, .slice _ _ _, .int .i64 _]) h Tryz.sizeOf36 rfl rfl rfl rfl rfl) rfl rfl ?_)))
  rintro _ w h
  refine WL.val run_assign rfl rfl (WL.nil (W.ret (bodyQ.rctB (vs := [.int .i64 _, .int .i64 _, .int .i64 _, .slice _ _ _, .int .i64 _]) (v2 := .slice _ _ _) h Tryz.results98 Tryz.isAgg36 Tryz.sizeOf36 rfl rfl rfl rfl ?_)))
  have h : On W0 (Own 2 (.slice none 0 0) 0 (notesV 0 []) :: _) w := h.ownEmpty 2 none
  have e : preF t ii key other typ = ⟨t, plain 24 0 0, [], 0⟩ := by unfold preF; rw [if_pos hok]
  rw [e]
  dsimp only
  exact ⟨none, 0, rfl, h.to⟩

end Go.Proofs.YtdpakoefdpmebaaGreat
