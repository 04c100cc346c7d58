/-
  Texts of a proof as one.
-/
import Derived.Test.YtjfmjbmkkpkppaaGreatDoorTopSenseFQ2
import Derived.Test.YtjfmjbmkkpkppaaGreatDoorTopSenseFQ5
import Derived.Test.YtjfmjbmkkpkppaaGreatDoorTopSenseFQ3
import Derived.Test.YtjfmjbmkkpkppaaGreatDoorTopSenseFQ4
import Derived.Test.YtjfmjbmkkpkppaaGreatDoorTopSenseFQ1
set_option linter.unusedVariables false
set_option linter.unusedSimpArgs false
namespace Go.Proofs.YtjfmjbmkkpkppaaGreatDoor
open Go.Proofs.Tryz
open Go Go.Sl Go.Sl.RsM Go.Sl.ByM Go.Sl.UnM
set_option linter.unusedVariables false
set_option linter.unusedSimpArgs false
set_option maxHeartbeats 1000000
set_option maxRecDepth 8000
variable {W0 w : World} {L F : List HProp}
theorem umay_ok {b i : Nat} {t : Tb} {key : Int} (hi : i < 8) (h : On W0 (blk b t.cells 154 :: L) w) : Calls Tryz.prog 120 #[.pointer (some ⟨b, 0, none⟩), .int .i64 (i : Int), .int .u64 key] w (Ret fun v w' => ((okKB t i key = true ∧ v = .tuple #[rep 0 0 0, .bool true]) ∨ (okKB t i key = false ∧ v = .tuple #[rep 24 0 0, .bool false])) ∧ On W0 (blk b t.cells 154 :: L) w') := by
  refine enter func120 rfl ntmps120 rfl (W.sr (WL.e (eff_alloc h zeroValue44 rfl) ?_))
  rintro _ w ⟨b6, rfl, h⟩
  refine WL.a (WL.nil (W.seq (W.block (W.sr (WL.m (WL.e (eff_call call80 (host_ok h)) ?_))))))
  rintro _ w ⟨hv, h⟩
  rw [hostB_iff.2 ⟨by omega, by omega⟩] at hv
  subst hv
  refine WL.v (run_not rfl) (WL.a (WL.nil (W.condF rfl (W.sr (WL.m (WL.m ?_))))))
  refine WL.n rfl (WL.f 0 underlying154 rfl sizeOf152 rfl rfl (WL.v (run_indexAddrArr underlying152 sizeOf27 rfl rfl (by omega) (by omega)) (WL.l isAgg27 rfl (h.cellB (cells_at hi)) ?_)))
  refine WL.dec (run_eql rfl rfl) rfl rfl (fun c20 => ?_) (fun c20 => ?_)
  ·
   refine WL.m (WL.s (WL.s (WL.s (WL.s (WL.s (WL.s (WL.s ?_)))))))
   refine WL.s (WL.v (run_pickT rfl) (WL.a (WL.nil (W.condT rfl (W.sr (WL.e (eff_call call117 (conflict_ok h)) ?_))))))
   rintro _ w ⟨rfl, h⟩
   refine WL.e (eff_storeW (vs := [.int .i64 _, .int .i64 _, .int .i64 _, .slice _ _ _, .int .i64 _]) h sizeOf44 rfl rfl rfl rfl rfl) ?_
   rintro _ w h
   refine WL.a (WL.nil (W.ret (bodyQ.rctB (vs := [.int .i64 _, .int .i64 _, .int .i64 _, .slice _ _ _, .int .i64 _]) (v2 := .bool _) h results120 isAgg44 sizeOf44 rfl rfl rfl rfl ?_)))
   exact ⟨.inr ⟨by unfold okKB; simp only [decide_eq_true (show t.K i = 0 by omega)]; rfl, rfl⟩, h.to⟩
  refine WL.m (WL.m (WL.m (WL.n rfl (WL.f 0 underlying154 rfl sizeOf152 rfl rfl (WL.v (run_indexAddrArr underlying152 sizeOf27 rfl rfl (by omega) (by omega)) (WL.l isAgg27 rfl (h.cellB (cells_at hi)) (WL.m ?_)))))))
  refine WL.v (run_neq rfl rfl) (WL.v (run_pickF rfl) (WL.a (WL.nil ?_)))
  refine W.condIf rfl (fun c7 => ?_) (fun c7 => ?_)
  ·
   refine W.sr (WL.e (eff_call call117 (conflict_ok h)) ?_)
   rintro _ w ⟨rfl, h⟩
   refine WL.e (eff_storeW (vs := [.int .i64 _, .int .i64 _, .int .i64 _, .slice _ _ _, .int .i64 _]) h sizeOf44 rfl rfl rfl rfl rfl) ?_
   rintro _ w h
   refine WL.a (WL.nil (W.ret (bodyQ.rctB (vs := [.int .i64 _, .int .i64 _, .int .i64 _, .slice _ _ _, .int .i64 _]) (v2 := .bool _) h results120 isAgg44 sizeOf44 rfl rfl rfl rfl ?_)))
   exact ⟨.inr ⟨by unfold okKB; rw [decide_eq_false (show ¬ t.K i = key by omega), Bool.and_false], rfl⟩, h.to⟩
  refine W.skip (W.sr (WL.e (eff_call call119 (good_ok h)) ?_))
  rintro _ w ⟨rfl, h⟩
  refine WL.e (eff_storeW (vs := [.int .i64 _, .int .i64 _, .int .i64 _, .slice _ _ _, .int .i64 _]) h sizeOf44 rfl rfl rfl rfl rfl) ?_
  rintro _ w h
  refine WL.a (WL.nil (W.ret (bodyQ.rctB (vs := [.int .i64 _, .int .i64 _, .int .i64 _, .slice _ _ _, .int .i64 _]) (v2 := .bool _) h results120 isAgg44 sizeOf44 rfl rfl rfl rfl ?_)))
  exact ⟨.inl ⟨by unfold okKB; rw [decide_eq_false (show ¬ t.K i = 0 by omega), decide_eq_true (show t.K i = key by omega)]; rfl, rfl⟩, h.to⟩
theorem uregister_ok {b i : Nat} {t : Tb} {key fresh : Int} {ign : Bool} (hi : i < 8) (h : On W0 (blk b t.cells 154 :: L) w) : Calls Tryz.prog 86 #[.pointer (some ⟨b, 0, none⟩), .int .i64 (i : Int), .int .u64 key, .int .u64 fresh, .bool ign] w (Ret fun v w' => ∃ a c, v = .tuple #[(regF t i key fresh ign).r.val (.slice none 0 0), .slice a (regF t i key fresh ign).l.length c] ∧ On W0 (Own 2 (.slice a (regF t i key fresh ign).l.length c) (regF t i key fresh ign).l.length (notesV (regF t i key fresh ign).code ((regF t i key fresh ign).l)) :: blk b (regF t i key fresh ign).t.cells 154 :: L) w') := by
  refine enter func86 rfl ntmps86 rfl (W.sr (WL.e (eff_alloc h zeroValue44 rfl) ?_))
  rintro _ w ⟨b10, rfl, h⟩
  refine WL.a (WL.nil (W.seq (W.block (W.sr (WL.m (WL.e (eff_call call80 (host_ok h)) ?_))))))
  rintro _ w ⟨hv, h⟩
  rw [hostB_iff.2 ⟨by omega, by omega⟩] at hv
  subst hv
  refine WL.v (run_not rfl) (WL.a (WL.nil (W.condF rfl (W.sr (WL.m ?_)))))
  refine WL.boolB (run_not rfl) rfl rfl (fun c20 => ?_) (fun c20 => ?_)
  ·
   refine WL.m (WL.m (WL.m (WL.m (WL.n rfl (WL.f 0 underlying154 rfl sizeOf152 rfl rfl (WL.v (run_indexAddrArr underlying152 sizeOf27 rfl rfl (by omega) (by omega)) (WL.l isAgg27 rfl (h.cellB (cells_at hi)) ?_)))))))
   refine WL.v (run_neq rfl rfl) (WL.v (run_pickT rfl) (WL.a (WL.nil ?_)))
   refine W.condIf rfl (fun c7 => ?_) (fun c7 => ?_)
   ·
    refine W.sr (WL.e (eff_call call117 (conflict_ok h)) ?_)
    rintro _ w ⟨rfl, h⟩
    refine WL.e (eff_storeW (vs := [.int .i64 _, .int .i64 _, .int .i64 _, .slice _ _ _, .int .i64 _]) h sizeOf44 rfl rfl rfl rfl rfl) ?_
    rintro _ w h
    refine WL.a (WL.nil (W.ret (bodyQ.rctB (vs := [.int .i64 _, .int .i64 _, .int .i64 _, .slice _ _ _, .int .i64 _]) (v2 := .slice _ _ _) h results86 isAgg44 sizeOf44 rfl rfl rfl rfl ?_)))
    have h : On W0 (Own 2 (.slice none 0 0) 0 (notesV 0 []) :: _) w := h.ownEmpty 2 none
    have e : regF t i key fresh ign = ⟨t, plain 24 0 0, [], 0⟩ := by unfold regF; rw [if_neg (by rintro (hx | hx); rw [hx] at c20; cases c20; exact c7 hx)]
    rw [e]
    dsimp only
    exact ⟨none, 0, rfl, h.to⟩
   refine W.skip (W.sr (WL.m (WL.n rfl (WL.f 10 underlying154 rfl sizeOf24 rfl rfl (WL.l isAgg24 rfl (h.cellB rfl) (WL.v (run_addW rfl rfl) ?_))))))
   refine WL.n rfl (WL.f 10 underlying154 rfl sizeOf24 rfl rfl (WL.e (eff_store (v := .int .u32 _) h sizeOf24 rfl rfl rfl rfl rfl) ?_))
   rintro _ w h
   try simp only [Nat.zero_add, Nat.add_zero, List.set_cons_zero, List.set_cons_succ] at h
   refine WL.nil (W.seq ?_)
   have h : On W0 (blk b10 _ 44 :: blk b t.inc.cells 154 :: L) w := h
   refine W.region (WL.a (WL.nil (W.seq (W.sr (WL.m ?_)))))
   refine WL.dec (run_eql rfl rfl) rfl rfl (fun c40 => ?_) (fun c40 => ?_)
   ·
    refine WL.m (WL.m (WL.n rfl (WL.f 8 underlying154 rfl sizeOf3 rfl rfl (WL.l isAgg3 rfl (h.cellB rfl) (WL.m (WL.v (run_eql rfl rfl) (WL.v (run_pickT rfl) ?_)))))))
    refine WL.nil ?_
    refine W.condIf rfl (fun c14 => ?_) (fun c14 => ?_)
    ·
     refine W.region (WL.m (WL.m (WL.e (eff_call call118 (drop_ok (t := t.inc) (hh := (i : Int)) (h.fetch (blk b t.inc.cells 154)))) ?_)))
     rintro _ w ⟨ad, rfl, h⟩
     have h : On W0 (Own 2 (.slice ad (t.told i).length (t.told i).length) (t.told i).length (notesV 10756 (t.told i)) :: blk b t.inc.freed.cells 154 :: _) w := h
     refine WL.a (WL.nil (W.sr (WL.m (WL.m (WL.m (WL.n rfl ?_))))))
     refine WL.f 0 underlying154 rfl sizeOf152 rfl rfl (WL.v (run_indexAddrArr underlying152 sizeOf27 rfl rfl (by omega) (by omega)) (WL.e (eff_store (v := .int .u64 _) h sizeOf27 rfl rfl rfl (cells_lt hi) (free0 _)) ?_))
     rintro _ w h
     rw [cells_set hi] at h
     refine WL.nil (W.sr (WL.e (eff_call call119 (good_ok h)) ?_))
     rintro _ w ⟨rfl, h⟩
     refine WL.m (WL.e (eff_storeW (vs := [.int .i64 _, .int .i64 _, .int .i64 _, .slice _ _ _, .int .i64 _]) h sizeOf44 rfl rfl rfl rfl rfl) ?_)
     rintro _ w h
     refine WL.a (WL.nil (W.ret (bodyQ.rctB (vs := [.int .i64 _, .int .i64 _, .int .i64 _, .slice _ _ _, .int .i64 _]) (v2 := .slice _ _ _) h results86 isAgg44 sizeOf44 rfl rfl rfl rfl ?_)))
     have e1 : regO t i fresh = (t.told i, t.inc.freed.put i fresh) := by unfold regO; rw [if_pos ⟨by omega, c14⟩]
     have e : regF t i key fresh ign = ⟨t.inc.freed.put i fresh, plain 0 0 0, t.told i, 10756⟩ := by unfold regF; rw [if_pos (.inr (by omega)), e1]
     rw [e]
     dsimp only
     exact ⟨ad, (t.told i).length, rfl, h.to⟩
    refine W.skip (W.sr (WL.m (WL.m (WL.m (WL.n rfl (WL.f 0 underlying154 rfl sizeOf152 rfl rfl ?_))))))
    refine WL.v (run_indexAddrArr underlying152 sizeOf27 rfl rfl (by omega) (by omega)) (WL.e (eff_store (v := .int .u64 _) h sizeOf27 rfl rfl rfl (cells_lt hi) (free0 _)) ?_)
    rintro _ w h
    rw [cells_set hi] at h
    refine WL.nil (W.sr (WL.e (eff_call call119 (good_ok h)) ?_))
    rintro _ w ⟨rfl, h⟩
    refine WL.m (WL.e (eff_storeW (vs := [.int .i64 _, .int .i64 _, .int .i64 _, .slice _ _ _, .int .i64 _]) h sizeOf44 rfl rfl rfl rfl rfl) ?_)
    rintro _ w h
    refine WL.a (WL.nil (W.ret (bodyQ.rctB (vs := [.int .i64 _, .int .i64 _, .int .i64 _, .slice _ _ _, .int .i64 _]) (v2 := .slice _ _ _) h results86 isAgg44 sizeOf44 rfl rfl rfl rfl ?_)))
    have e1 : regO t i fresh = ([], t.inc.put i fresh) := by unfold regO; rw [if_neg (fun hh => c14 hh.2)]
    have h : On W0 (Own 2 (.slice none 0 0) 0 (notesV 10756 []) :: _) w := h.ownEmpty 2 none
    have e : regF t i key fresh ign = ⟨t.inc.put i fresh, plain 0 0 0, [], 10756⟩ := by unfold regF; rw [if_pos (.inr (by omega)), e1]
    rw [e]
    dsimp only
    exact ⟨none, 0, rfl, h.to⟩
   refine WL.m (WL.s (WL.s (WL.s (WL.s (WL.s (WL.s (WL.v (run_pickF rfl) ?_)))))))
   refine WL.nil (W.condF rfl (W.skip (W.sr (WL.m (WL.m (WL.m ?_))))))
   refine WL.n rfl (WL.f 0 underlying154 rfl sizeOf152 rfl rfl (WL.v (run_indexAddrArr underlying152 sizeOf27 rfl rfl (by omega) (by omega)) (WL.e (eff_store (v := .int .u64 _) h sizeOf27 rfl rfl rfl (cells_lt hi) (free0 _)) ?_)))
   rintro _ w h
   rw [cells_set hi] at h
   refine WL.nil (W.sr (WL.e (eff_call call119 (good_ok h)) ?_))
   rintro _ w ⟨rfl, h⟩
   refine WL.m (WL.e (eff_storeW (vs := [.int .i64 _, .int .i64 _, .int .i64 _, .slice _ _ _, .int .i64 _]) h sizeOf44 rfl rfl rfl rfl rfl) ?_)
   rintro _ w h
   refine WL.a (WL.nil (W.ret (bodyQ.rctB (vs := [.int .i64 _, .int .i64 _, .int .i64 _, .slice _ _ _, .int .i64 _]) (v2 := .slice _ _ _) h results86 isAgg44 sizeOf44 rfl rfl rfl rfl ?_)))
   have e1 : regO t i fresh = ([], t.inc.put i fresh) := by unfold regO; rw [if_neg (fun hh => c40 hh.1)]
   have h : On W0 (Own 2 (.slice none 0 0) 0 (notesV 10756 []) :: _) w := h.ownEmpty 2 none
   have e : regF t i key fresh ign = ⟨t.inc.put i fresh, plain 0 0 0, [], 10756⟩ := by unfold regF; rw [if_pos (.inr (by omega)), e1]
   rw [e]
   dsimp only
   exact ⟨none, 0, rfl, h.to⟩
  refine WL.m (WL.s (WL.s (WL.s (WL.s (WL.s (WL.s (WL.s ?_)))))))
  refine WL.s (WL.v (run_pickF rfl) (WL.a (WL.nil (W.condF rfl (W.skip (W.sr ?_))))))
  refine WL.m (WL.n rfl (WL.f 10 underlying154 rfl sizeOf24 rfl rfl (WL.l isAgg24 rfl (h.cellB rfl) (WL.v (run_addW rfl rfl) (WL.n rfl (WL.f 10 underlying154 rfl sizeOf24 rfl rfl (WL.e (eff_store (v := .int .u32 _) h sizeOf24 rfl rfl rfl rfl rfl) ?_)))))))
  rintro _ w h
  try simp only [Nat.zero_add, Nat.add_zero, List.set_cons_zero, List.set_cons_succ] at h
  refine WL.nil (W.seq ?_)
  have h : On W0 (blk b10 _ 44 :: blk b t.inc.cells 154 :: L) w := h
  refine W.region (WL.a (WL.nil (W.seq (W.sr (WL.m ?_)))))
  refine WL.dec (run_eql rfl rfl) rfl rfl (fun c40 => ?_) (fun c40 => ?_)
  ·
   refine WL.m (WL.m (WL.n rfl (WL.f 8 underlying154 rfl sizeOf3 rfl rfl (WL.l isAgg3 rfl (h.cellB rfl) (WL.m (WL.v (run_eql rfl rfl) (WL.v (run_pickT rfl) ?_)))))))
   refine WL.nil ?_
   refine W.condIf rfl (fun c14 => ?_) (fun c14 => ?_)
   ·
    refine W.region (WL.m (WL.m (WL.e (eff_call call118 (drop_ok (t := t.inc) (hh := (i : Int)) (h.fetch (blk b t.inc.cells 154)))) ?_)))
    rintro _ w ⟨ad, rfl, h⟩
    have h : On W0 (Own 2 (.slice ad (t.told i).length (t.told i).length) (t.told i).length (notesV 10756 (t.told i)) :: blk b t.inc.freed.cells 154 :: _) w := h
    refine WL.a (WL.nil (W.sr (WL.m (WL.m (WL.m (WL.n rfl ?_))))))
    refine WL.f 0 underlying154 rfl sizeOf152 rfl rfl (WL.v (run_indexAddrArr underlying152 sizeOf27 rfl rfl (by omega) (by omega)) (WL.e (eff_store (v := .int .u64 _) h sizeOf27 rfl rfl rfl (cells_lt hi) (free0 _)) ?_))
    rintro _ w h
    rw [cells_set hi] at h
    refine WL.nil (W.sr (WL.e (eff_call call119 (good_ok h)) ?_))
    rintro _ w ⟨rfl, h⟩
    refine WL.m (WL.e (eff_storeW (vs := [.int .i64 _, .int .i64 _, .int .i64 _, .slice _ _ _, .int .i64 _]) h sizeOf44 rfl rfl rfl rfl rfl) ?_)
    rintro _ w h
    refine WL.a (WL.nil (W.ret (bodyQ.rctB (vs := [.int .i64 _, .int .i64 _, .int .i64 _, .slice _ _ _, .int .i64 _]) (v2 := .slice _ _ _) h results86 isAgg44 sizeOf44 rfl rfl rfl rfl ?_)))
    have e1 : regO t i fresh = (t.told i, t.inc.freed.put i fresh) := by unfold regO; rw [if_pos ⟨by omega, c14⟩]
    have e : regF t i key fresh ign = ⟨t.inc.freed.put i fresh, plain 0 0 0, t.told i, 10756⟩ := by unfold regF; rw [if_pos (.inl (by simpa using c20)), e1]
    rw [e]
    dsimp only
    exact ⟨ad, (t.told i).length, rfl, h.to⟩
   refine W.skip (W.sr (WL.m (WL.m (WL.m (WL.n rfl (WL.f 0 underlying154 rfl sizeOf152 rfl rfl ?_))))))
   refine WL.v (run_indexAddrArr underlying152 sizeOf27 rfl rfl (by omega) (by omega)) (WL.e (eff_store (v := .int .u64 _) h sizeOf27 rfl rfl rfl (cells_lt hi) (free0 _)) ?_)
   rintro _ w h
   rw [cells_set hi] at h
   refine WL.nil (W.sr (WL.e (eff_call call119 (good_ok h)) ?_))
   rintro _ w ⟨rfl, h⟩
   refine WL.m (WL.e (eff_storeW (vs := [.int .i64 _, .int .i64 _, .int .i64 _, .slice _ _ _, .int .i64 _]) h sizeOf44 rfl rfl rfl rfl rfl) ?_)
   rintro _ w h
   refine WL.a (WL.nil (W.ret (bodyQ.rctB (vs := [.int .i64 _, .int .i64 _, .int .i64 _, .slice _ _ _, .int .i64 _]) (v2 := .slice _ _ _) h results86 isAgg44 sizeOf44 rfl rfl rfl rfl ?_)))
   have e1 : regO t i fresh = ([], t.inc.put i fresh) := by unfold regO; rw [if_neg (fun hh => c14 hh.2)]
   have h : On W0 (Own 2 (.slice none 0 0) 0 (notesV 10756 []) :: _) w := h.ownEmpty 2 none
   have e : regF t i key fresh ign = ⟨t.inc.put i fresh, plain 0 0 0, [], 10756⟩ := by unfold regF; rw [if_pos (.inl (by simpa using c20)), e1]
   rw [e]
   dsimp only
   exact ⟨none, 0, rfl, h.to⟩
  refine WL.m (WL.s (WL.s (WL.s (WL.s (WL.s (WL.s (WL.v (run_pickF rfl) ?_)))))))
  refine WL.nil (W.condF rfl (W.skip (W.sr (WL.m (WL.m (WL.m ?_))))))
  refine WL.n rfl (WL.f 0 underlying154 rfl sizeOf152 rfl rfl (WL.v (run_indexAddrArr underlying152 sizeOf27 rfl rfl (by omega) (by omega)) (WL.e (eff_store (v := .int .u64 _) h sizeOf27 rfl rfl rfl (cells_lt hi) (free0 _)) ?_)))
  rintro _ w h
  rw [cells_set hi] at h
  refine WL.nil (W.sr (WL.e (eff_call call119 (good_ok h)) ?_))
  rintro _ w ⟨rfl, h⟩
  refine WL.m (WL.e (eff_storeW (vs := [.int .i64 _, .int .i64 _, .int .i64 _, .slice _ _ _, .int .i64 _]) h sizeOf44 rfl rfl rfl rfl rfl) ?_)
  rintro _ w h
  refine WL.a (WL.nil (W.ret (bodyQ.rctB (vs := [.int .i64 _, .int .i64 _, .int .i64 _, .slice _ _ _, .int .i64 _]) (v2 := .slice _ _ _) h results86 isAgg44 sizeOf44 rfl rfl rfl rfl ?_)))
  have e1 : regO t i fresh = ([], t.inc.put i fresh) := by unfold regO; rw [if_neg (fun hh => c40 hh.1)]
  have h : On W0 (Own 2 (.slice none 0 0) 0 (notesV 10756 []) :: _) w := h.ownEmpty 2 none
  have e : regF t i key fresh ign = ⟨t.inc.put i fresh, plain 0 0 0, [], 10756⟩ := by unfold regF; rw [if_pos (.inl (by simpa using c20)), e1]
  rw [e]
  dsimp only
  exact ⟨none, 0, rfl, h.to⟩
theorem ureserve_ok {b i : Nat} {t : Tb} {key typ : Int} (hi : i < 8) (h : On W0 (blk b t.cells 154 :: L) w) : Calls Tryz.prog 87 #[.pointer (some ⟨b, 0, none⟩), .int .i64 (i : Int), .int .u64 key, .int .i64 typ] w (Ret fun v w' => v = (rsvF t i key typ).r.val (.slice none 0 0) ∧ On W0 (blk b (rsvF t i key typ).t.cells 154 :: L) w') := by
  refine enter func87 rfl ntmps87 rfl (W.sr (WL.e (eff_alloc h zeroValue44 rfl) ?_))
  rintro _ w ⟨b8, rfl, h⟩
  refine WL.nil (W.seq (W.sr (WL.m (WL.m (WL.m (WL.e (eff_call call120 (umay_ok hi (h.fetch (blk b t.cells 154)))) ?_))))))
  rintro _ w ⟨hv, h⟩
  rcases hv with ⟨hok, rfl⟩ | ⟨hok, rfl⟩
  ·
   refine WL.m (WL.v (run_extract rfl rfl) (WL.v (run_extract rfl rfl) (WL.e (eff_alloc h zeroValue44 rfl) ?_)))
   rintro _ w ⟨b9, rfl, h⟩
   refine WL.e (eff_storeW (vs := [.int .i64 _, .int .i64 _, .int .i64 _, .slice _ _ _, .int .i64 _]) h sizeOf44 rfl rfl rfl rfl rfl) ?_
   rintro _ w h
   refine WL.a (WL.nil (W.sr (WL.m (WL.v (run_not rfl) (WL.nil (W.condF rfl ?_))))))
   refine W.skip (W.seq (W.block (W.sr (WL.m (WL.e (eff_call call121 (typed_ok h)) ?_)))))
   rintro _ w ⟨hv, h⟩
   have hcs := Bool.eq_false_or_eq_true (typedB typ)
   rcases hcs with hty | hty <;> (rw [hty] at hv; subst hv)
   ·
    refine WL.v (run_not rfl) (WL.a (WL.nil (W.condF rfl (W.sr (WL.m (WL.n rfl ?_))))))
    refine WL.f 8 underlying154 rfl sizeOf3 rfl rfl (WL.l isAgg3 rfl (h.cellB rfl) (WL.v (run_eql rfl rfl) (WL.a (WL.nil ?_))))
    refine W.condIf rfl (fun c13 => ?_) (fun c13 => ?_)
    ·
     refine W.sr (WL.m (WL.m (WL.m (WL.m (WL.n rfl (WL.f 8 underlying154 rfl sizeOf3 rfl rfl ?_))))))
     refine WL.e (eff_store (v := .int .i64 _) h sizeOf3 rfl rfl rfl rfl rfl) ?_
     rintro _ w h
     try simp only [Nat.zero_add, Nat.add_zero, List.set_cons_zero, List.set_cons_succ] at h
     refine WL.n rfl (WL.f 9 underlying154 rfl sizeOf3 rfl rfl (WL.e (eff_store (v := .int .i64 _) h sizeOf3 rfl rfl rfl rfl rfl) ?_))
     rintro _ w h
     try simp only [Nat.zero_add, Nat.add_zero, List.set_cons_zero, List.set_cons_succ] at h
     refine WL.nil (W.seq ?_)
     have h := h.fetch (blk b ((t.cells.set (0 + 8) (.int .i64 (i : Int))).set (0 + 9) (.int .i64 typ)) 154)
     have h : On W0 (blk b (t.take i typ).cells 154 :: _) w := h
     refine W.region (WL.e (eff_call call119 (good_ok h)) ?_)
     rintro _ w ⟨rfl, h⟩
     refine WL.e (eff_storeW (vs := [.int .i64 _, .int .i64 _, .int .i64 _, .slice _ _ _, .int .i64 _]) h sizeOf44 rfl rfl rfl rfl rfl) ?_
     rintro _ w h
     refine WL.nil (W.ret (bodyQ.rcB (vs := [.int .i64 _, .int .i64 _, .int .i64 _, .slice _ _ _, .int .i64 _]) h results87 isAgg44 sizeOf44 rfl rfl rfl ?_))
     have e : rsvF t i key typ = ⟨t.take i typ, plain 0 0 0, [], 0⟩ := by unfold rsvF; rw [if_neg (by rw [hok]; decide), if_neg (by rw [hty]; decide), if_pos c13]
     rw [e]
     dsimp only
     exact ⟨rfl, h.to⟩
    refine W.sr (WL.m (WL.n rfl (WL.f 8 underlying154 rfl sizeOf3 rfl rfl (WL.l isAgg3 rfl (h.cellB rfl) (WL.m ?_)))))
    refine WL.dec (run_eql rfl rfl) rfl rfl (fun c47 => ?_) (fun c47 => ?_)
    ·
     refine WL.m (WL.m (WL.n rfl (WL.f 9 underlying154 rfl sizeOf3 rfl rfl (WL.l isAgg3 rfl (h.cellB rfl) (WL.m (WL.v (run_eql rfl rfl) (WL.v (run_pickT rfl) ?_)))))))
     refine WL.a (WL.nil ?_)
     refine W.condIf rfl (fun c18 => ?_) (fun c18 => ?_)
     ·
      refine W.sr (WL.e (eff_call call119 (good_ok h)) ?_)
      rintro _ w ⟨rfl, h⟩
      refine WL.e (eff_storeW (vs := [.int .i64 _, .int .i64 _, .int .i64 _, .slice _ _ _, .int .i64 _]) h sizeOf44 rfl rfl rfl rfl rfl) ?_
      rintro _ w h
      refine WL.nil (W.ret (bodyQ.rcB (vs := [.int .i64 _, .int .i64 _, .int .i64 _, .slice _ _ _, .int .i64 _]) h results87 isAgg44 sizeOf44 rfl rfl rfl ?_))
      have e : rsvF t i key typ = ⟨t, plain 0 0 0, [], 0⟩ := by unfold rsvF; rw [if_neg (by rw [hok]; decide), if_neg (by rw [hty]; decide), if_neg c13, if_pos ⟨by omega, by omega⟩]
      rw [e]
      dsimp only
      exact ⟨rfl, h.to⟩
     refine W.skip (W.sr (WL.e (eff_call call117 (conflict_ok h)) ?_))
     rintro _ w ⟨rfl, h⟩
     refine WL.e (eff_storeW (vs := [.int .i64 _, .int .i64 _, .int .i64 _, .slice _ _ _, .int .i64 _]) h sizeOf44 rfl rfl rfl rfl rfl) ?_
     rintro _ w h
     refine WL.nil (W.ret (bodyQ.rcB (vs := [.int .i64 _, .int .i64 _, .int .i64 _, .slice _ _ _, .int .i64 _]) h results87 isAgg44 sizeOf44 rfl rfl rfl ?_))
     have e : rsvF t i key typ = ⟨t, plain 24 0 0, [], 0⟩ := by unfold rsvF; rw [if_neg (by rw [hok]; decide), if_neg (by rw [hty]; decide), if_neg c13, if_neg (by omega)]
     rw [e]
     dsimp only
     exact ⟨rfl, h.to⟩
    refine WL.m (WL.s (WL.s (WL.s (WL.s (WL.s (WL.s (WL.v (run_pickF rfl) ?_)))))))
    refine WL.a (WL.nil (W.condF rfl (W.skip (W.sr (WL.e (eff_call call117 (conflict_ok h)) ?_)))))
    rintro _ w ⟨rfl, h⟩
    refine WL.e (eff_storeW (vs := [.int .i64 _, .int .i64 _, .int .i64 _, .slice _ _ _, .int .i64 _]) h sizeOf44 rfl rfl rfl rfl rfl) ?_
    rintro _ w h
    refine WL.nil (W.ret (bodyQ.rcB (vs := [.int .i64 _, .int .i64 _, .int .i64 _, .slice _ _ _, .int .i64 _]) h results87 isAgg44 sizeOf44 rfl rfl rfl ?_))
    have e : rsvF t i key typ = ⟨t, plain 24 0 0, [], 0⟩ := by unfold rsvF; rw [if_neg (by rw [hok]; decide), if_neg (by rw [hty]; decide), if_neg c13, if_neg (by omega)]
    rw [e]
    dsimp only
    exact ⟨rfl, h.to⟩
   refine WL.v (run_not rfl) (WL.a (WL.nil (W.condT rfl (W.sr (WL.e (eff_call call116 (field_ok h)) ?_)))))
   rintro _ w ⟨rfl, h⟩
   refine WL.e (eff_storeW (vs := [.int .i64 _, .int .i64 _, .int .i64 _, .slice _ _ _, .int .i64 _]) h sizeOf44 rfl rfl rfl rfl rfl) ?_
   rintro _ w h
   refine WL.nil (W.ret (bodyQ.rcB (vs := [.int .i64 _, .int .i64 _, .int .i64 _, .slice _ _ _, .int .i64 _]) h results87 isAgg44 sizeOf44 rfl rfl rfl ?_))
   have e : rsvF t i key typ = ⟨t, plain 2 5 9216, [], 0⟩ := by unfold rsvF; rw [if_neg (by rw [hok]; decide), if_pos hty]
   rw [e]
   dsimp only
   exact ⟨rfl, h.to⟩
  refine WL.m (WL.v (run_extract rfl rfl) (WL.v (run_extract rfl rfl) (WL.e (eff_alloc h zeroValue44 rfl) ?_)))
  rintro _ w ⟨b9, rfl, h⟩
  refine WL.e (eff_storeW (vs := [.int .i64 _, .int .i64 _, .int .i64 _, .slice _ _ _, .int .i64 _]) h sizeOf44 rfl rfl rfl rfl rfl) ?_
  rintro _ w h
  refine WL.a (WL.nil (W.sr (WL.m (WL.v (run_not rfl) (WL.nil (W.condT rfl ?_))))))
  refine W.sr (WL.v (run_loadB (vs := [.int .i64 _, .int .i64 _, .int .i64 _, .slice _ _ _, .int .i64 _]) h isAgg44 sizeOf44 rfl rfl rfl) (WL.e (eff_storeW (vs := [.int .i64 _, .int .i64 _, .int .i64 _, .slice _ _ _, .int .i64 _]) h sizeOf44 rfl rfl rfl rfl rfl) ?_))
  rintro _ w h
  refine WL.nil (W.ret (bodyQ.rcB (vs := [.int .i64 _, .int .i64 _, .int .i64 _, .slice _ _ _, .int .i64 _]) h results87 isAgg44 sizeOf44 rfl rfl rfl ?_))
  have e : rsvF t i key typ = ⟨t, plain 24 0 0, [], 0⟩ := by unfold rsvF; rw [if_pos hok]
  rw [e]
  dsimp only
  exact ⟨rfl, h.to⟩
theorem urelease_ok {b i : Nat} {t : Tb} {key typ : Int} (hi : i < 8) (h : On W0 (blk b t.cells 154 :: L) w) : Calls Tryz.prog 88 #[.pointer (some ⟨b, 0, none⟩), .int .i64 (i : Int), .int .u64 key, .int .i64 typ] w (Ret fun v w' => ∃ a c, v = .tuple #[(relF t i key typ).r.val (.slice none 0 0), .slice a (relF t i key typ).l.length c] ∧ On W0 (Own 2 (.slice a (relF t i key typ).l.length c) (relF t i key typ).l.length (notesV (relF t i key typ).code ((relF t i key typ).l)) :: blk b (relF t i key typ).t.cells 154 :: L) w') := by
  refine enter func88 rfl ntmps88 rfl (W.sr (WL.e (eff_alloc h zeroValue44 rfl) ?_))
  rintro _ w ⟨b8, rfl, h⟩
  refine WL.a (WL.nil (W.seq (W.sr (WL.m (WL.m (WL.m ?_))))))
  refine WL.e (eff_call call120 (umay_ok hi (h.fetch (blk b t.cells 154)))) ?_
  rintro _ w ⟨hv, h⟩
  rcases hv with ⟨hok, rfl⟩ | ⟨hok, rfl⟩
  ·
   refine WL.m (WL.v (run_extract rfl rfl) (WL.v (run_extract rfl rfl) (WL.e (eff_alloc h zeroValue44 rfl) ?_)))
   rintro _ w ⟨b10, rfl, h⟩
   refine WL.e (eff_storeW (vs := [.int .i64 _, .int .i64 _, .int .i64 _, .slice _ _ _, .int .i64 _]) h sizeOf44 rfl rfl rfl rfl rfl) ?_
   rintro _ w h
   refine WL.a (WL.nil (W.sr (WL.m (WL.v (run_not rfl) (WL.nil (W.condF rfl ?_))))))
   refine W.skip (W.seq (W.block (W.sr (WL.m (WL.e (eff_call call121 (typed_ok h)) ?_)))))
   rintro _ w ⟨hv, h⟩
   have hcs := Bool.eq_false_or_eq_true (typedB typ)
   rcases hcs with hty | hty <;> (rw [hty] at hv; subst hv)
   ·
    refine WL.v (run_not rfl) (WL.a (WL.nil (W.condF rfl (W.sr (WL.m (WL.n rfl ?_))))))
    refine WL.f 8 underlying154 rfl sizeOf3 rfl rfl (WL.l isAgg3 rfl (h.cellB rfl) (WL.m (WL.v (run_neq rfl rfl) (WL.a (WL.nil ?_)))))
    refine W.condIf rfl (fun c13 => ?_) (fun c13 => ?_)
    ·
     refine W.sr (WL.e (eff_call call119 (good_ok h)) ?_)
     rintro _ w ⟨rfl, h⟩
     refine WL.e (eff_storeW (vs := [.int .i64 _, .int .i64 _, .int .i64 _, .slice _ _ _, .int .i64 _]) h sizeOf44 rfl rfl rfl rfl rfl) ?_
     rintro _ w h
     refine WL.a (WL.nil (W.ret (bodyQ.rctB (vs := [.int .i64 _, .int .i64 _, .int .i64 _, .slice _ _ _, .int .i64 _]) (v2 := .slice _ _ _) h results88 isAgg44 sizeOf44 rfl rfl rfl rfl ?_)))
     have h : On W0 (Own 2 (.slice none 0 0) 0 (notesV 0 []) :: _) w := h.ownEmpty 2 none
     have e : relF t i key typ = ⟨t, plain 0 0 0, [], 0⟩ := by unfold relF; rw [if_neg (by rw [hok]; decide), if_neg (by rw [hty]; decide), if_pos (show t.hold ≠ i from c13)]
     rw [e]
     dsimp only
     exact ⟨none, 0, rfl, h.to⟩
    refine W.sr (WL.m (WL.n rfl (WL.f 9 underlying154 rfl sizeOf3 rfl rfl (WL.l isAgg3 rfl (h.cellB rfl) (WL.m (WL.v (run_neq rfl rfl) ?_))))))
    refine WL.a (WL.nil ?_)
    refine W.condIf rfl (fun c17 => ?_) (fun c17 => ?_)
    ·
     refine W.sr (WL.e (eff_call call49 (wrong_ok h)) ?_)
     rintro _ w ⟨rfl, h⟩
     refine WL.e (eff_storeW (vs := [.int .i64 _, .int .i64 _, .int .i64 _, .slice _ _ _, .int .i64 _]) h sizeOf44 rfl rfl rfl rfl rfl) ?_
     rintro _ w h
     refine WL.a (WL.nil (W.ret (bodyQ.rctB (vs := [.int .i64 _, .int .i64 _, .int .i64 _, .slice _ _ _, .int .i64 _]) (v2 := .slice _ _ _) h results88 isAgg44 sizeOf44 rfl rfl rfl rfl ?_)))
     have h : On W0 (Own 2 (.slice none 0 0) 0 (notesV 0 []) :: _) w := h.ownEmpty 2 none
     have e : relF t i key typ = ⟨t, plain 2 5 9732, [], 0⟩ := by unfold relF; rw [if_neg (by rw [hok]; decide), if_neg (by rw [hty]; decide), if_neg (by omega), if_pos (show t.typ ≠ typ from c17)]
     rw [e]
     dsimp only
     exact ⟨none, 0, rfl, h.to⟩
    refine W.skip (W.sr (WL.e (eff_call call119 (good_ok h)) ?_))
    rintro _ w ⟨rfl, h⟩
    refine WL.m (WL.m (WL.e (eff_call call118 (drop_ok (hh := (i : Int)) (h.fetch (blk b t.cells 154)))) ?_))
    rintro _ w ⟨ad, rfl, h⟩
    refine WL.e (eff_storeW (vs := [.int .i64 _, .int .i64 _, .int .i64 _, .slice _ _ _, .int .i64 _]) h sizeOf44 rfl rfl rfl rfl rfl) ?_
    rintro _ w h
    refine WL.a (WL.nil (W.ret (bodyQ.rctB (vs := [.int .i64 _, .int .i64 _, .int .i64 _, .slice _ _ _, .int .i64 _]) (v2 := .slice _ _ _) h results88 isAgg44 sizeOf44 rfl rfl rfl rfl ?_)))
    have e : relF t i key typ = ⟨t.freed, plain 0 0 0, t.told i, 10756⟩ := by unfold relF; rw [if_neg (by rw [hok]; decide), if_neg (by rw [hty]; decide), if_neg (by omega), if_neg (by omega)]
    rw [e]
    dsimp only
    exact ⟨ad, (t.told i).length, rfl, h.to⟩
   refine WL.v (run_not rfl) (WL.a (WL.nil (W.condT rfl (W.sr (WL.e (eff_call call116 (field_ok h)) ?_)))))
   rintro _ w ⟨rfl, h⟩
   refine WL.e (eff_storeW (vs := [.int .i64 _, .int .i64 _, .int .i64 _, .slice _ _ _, .int .i64 _]) h sizeOf44 rfl rfl rfl rfl rfl) ?_
   rintro _ w h
   refine WL.a (WL.nil (W.ret (bodyQ.rctB (vs := [.int .i64 _, .int .i64 _, .int .i64 _, .slice _ _ _, .int .i64 _]) (v2 := .slice _ _ _) h results88 isAgg44 sizeOf44 rfl rfl rfl rfl ?_)))
   have h : On W0 (Own 2 (.slice none 0 0) 0 (notesV 0 []) :: _) w := h.ownEmpty 2 none
   have e : relF t i key typ = ⟨t, plain 2 5 9216, [], 0⟩ := by unfold relF; rw [if_neg (by rw [hok]; decide), if_pos hty]
   rw [e]
   dsimp only
   exact ⟨none, 0, rfl, h.to⟩
  refine WL.m (WL.v (run_extract rfl rfl) (WL.v (run_extract rfl rfl) (WL.e (eff_alloc h zeroValue44 rfl) ?_)))
  rintro _ w ⟨b10, rfl, h⟩
  refine WL.e (eff_storeW (vs := [.int .i64 _, .int .i64 _, .int .i64 _, .slice _ _ _, .int .i64 _]) h sizeOf44 rfl rfl rfl rfl rfl) ?_
  rintro _ w h
  refine WL.a (WL.nil (W.sr (WL.m (WL.v (run_not rfl) (WL.nil (W.condT rfl ?_))))))
  refine W.sr (WL.v (run_loadB (vs := [.int .i64 _, .int .i64 _, .int .i64 _, .slice _ _ _, .int .i64 _]) h isAgg44 sizeOf44 rfl rfl rfl) (WL.e (eff_storeW (vs := [.int .i64 _, .int .i64 _, .int .i64 _, .slice _ _ _, .int .i64 _]) h sizeOf44 rfl rfl rfl rfl rfl) ?_))
  rintro _ w h
  refine WL.a (WL.nil (W.ret (bodyQ.rctB (vs := [.int .i64 _, .int .i64 _, .int .i64 _, .slice _ _ _, .int .i64 _]) (v2 := .slice _ _ _) h results88 isAgg44 sizeOf44 rfl rfl rfl rfl ?_)))
  have h : On W0 (Own 2 (.slice none 0 0) 0 (notesV 0 []) :: _) w := h.ownEmpty 2 none
  have e : relF t i key typ = ⟨t, plain 24 0 0, [], 0⟩ := by unfold relF; rw [if_pos hok]
  rw [e]
  dsimp only
  exact ⟨none, 0, rfl, h.to⟩
theorem uclear_ok {b i : Nat} {t : Tb} {key : Int} (hi : i < 8) (h : On W0 (blk b t.cells 154 :: L) w) : Calls Tryz.prog 89 #[.pointer (some ⟨b, 0, none⟩), .int .i64 (i : Int), .int .u64 key] w (Ret fun v w' => ∃ a c, v = .tuple #[(clrF t i key).r.val (.slice none 0 0), .slice a (clrF t i key).l.length c] ∧ On W0 (Own 2 (.slice a (clrF t i key).l.length c) (clrF t i key).l.length (notesV (clrF t i key).code ((clrF t i key).l)) :: blk b (clrF t i key).t.cells 154 :: L) w') := by
  refine enter func89 rfl ntmps89 rfl (W.sr (WL.e (eff_alloc h zeroValue44 rfl) ?_))
  rintro _ w ⟨b6, rfl, h⟩
  refine WL.a (WL.nil (W.seq (W.sr (WL.m (WL.m (WL.m ?_))))))
  refine WL.e (eff_call call120 (umay_ok hi (h.fetch (blk b t.cells 154)))) ?_
  rintro _ w ⟨hv, h⟩
  rcases hv with ⟨hok, rfl⟩ | ⟨hok, rfl⟩
  ·
   refine WL.m (WL.v (run_extract rfl rfl) (WL.v (run_extract rfl rfl) (WL.e (eff_alloc h zeroValue44 rfl) ?_)))
   rintro _ w ⟨b8, rfl, h⟩
   refine WL.e (eff_storeW (vs := [.int .i64 _, .int .i64 _, .int .i64 _, .slice _ _ _, .int .i64 _]) h sizeOf44 rfl rfl rfl rfl rfl) ?_
   rintro _ w h
   refine WL.a (WL.nil (W.sr (WL.m (WL.v (run_not rfl) (WL.nil (W.condF rfl ?_))))))
   refine W.skip (W.sr (WL.m (WL.m (WL.e (eff_call call122 (others_ok (t := t) (b := b) (hh := (i : Int)) (code := 10755) (f := 123) (caps := #[]) (p := (fun _ => true)) (h.fetch (blk b t.cells 154)) call123 (fun k A w h => every_ok h))) ?_))))
   rintro _ w ⟨ad, rfl, h⟩
   refine WL.a (WL.nil (W.sr (WL.m (WL.n rfl (WL.f 10 underlying154 rfl sizeOf24 rfl rfl (WL.l isAgg24 rfl (h.cellB rfl) ?_))))))
   refine WL.v (run_addW rfl rfl) (WL.n rfl (WL.f 10 underlying154 rfl sizeOf24 rfl rfl (WL.e (eff_store (v := .int .u32 _) h sizeOf24 rfl rfl rfl rfl rfl) ?_)))
   rintro _ w h
   try simp only [Nat.zero_add, Nat.add_zero, List.set_cons_zero, List.set_cons_succ] at h
   refine WL.nil (W.sr (WL.m (WL.m (WL.m (WL.v (run_buildA (out := [.int .u64 _, .int .u64 _, .int .u64 _, .int .u64 _, .int .u64 _, .int .u64 _, .int .u64 _, .int .u64 _]) underlying152 sizeOf27 zeroValue152 rfl rfl (by simp) (trivial) rfl) (WL.n rfl ?_))))))
   refine WL.f 0 underlying154 rfl sizeOf152 rfl rfl (WL.e (eff_storeN (vs := keysV fun _ => 0) h sizeOf152 rfl rfl rfl rfl rfl (fun k _ _ => free0 k)) ?_)
   rintro _ w h
   refine WL.n rfl (WL.f 8 underlying154 rfl sizeOf3 rfl rfl (WL.e (eff_store (v := .int .i64 _) h sizeOf3 rfl rfl rfl rfl rfl) ?_))
   rintro _ w h
   try simp only [Nat.zero_add, Nat.add_zero, List.set_cons_zero, List.set_cons_succ] at h
   refine WL.n rfl (WL.f 9 underlying154 rfl sizeOf3 rfl rfl (WL.e (eff_store (v := .int .i64 _) h sizeOf3 rfl rfl rfl rfl rfl) ?_))
   rintro _ w h
   try simp only [Nat.zero_add, Nat.add_zero, List.set_cons_zero, List.set_cons_succ] at h
   refine WL.nil (W.seq ?_)
   have h := h.fetch (blk b ((((t.cells.set (0 + 10) (.int .u32 (IntKind.u32.wrap (t.gen + 1)))) |> (splice · (0 + 0) (keysV fun _ => 0))).set (0 + 8) (.int .i64 (-1))).set (0 + 9) (.int .i64 0)) 154)
   have h : On W0 (blk b t.cleared.cells 154 :: _) w := h
   refine W.region (WL.e (eff_call call119 (good_ok h)) ?_)
   rintro _ w ⟨rfl, h⟩
   refine WL.m (WL.e (eff_storeW (vs := [.int .i64 _, .int .i64 _, .int .i64 _, .slice _ _ _, .int .i64 _]) h sizeOf44 rfl rfl rfl rfl rfl) ?_)
   rintro _ w h
   refine WL.a (WL.nil (W.ret (bodyQ.rctB (vs := [.int .i64 _, .int .i64 _, .int .i64 _, .slice _ _ _, .int .i64 _]) (v2 := .slice _ _ _) h results89 isAgg44 sizeOf44 rfl rfl rfl rfl ?_)))
   have e : clrF t i key = ⟨t.cleared, plain 0 0 0, hostsN t.K i (fun _ => true) 8, 10755⟩ := by unfold clrF; rw [if_neg (by rw [hok]; decide)]
   rw [e]
   dsimp only
   exact ⟨ad, (hostsN t.K i (fun _ => true) 8).length, rfl, h.to⟩
  refine WL.m (WL.v (run_extract rfl rfl) (WL.v (run_extract rfl rfl) (WL.e (eff_alloc h zeroValue44 rfl) ?_)))
  rintro _ w ⟨b8, rfl, h⟩
  refine WL.e (eff_storeW (vs := [.int .i64 _, .int .i64 _, .int .i64 _, .slice _ _ _, .int .i64 _]) h sizeOf44 rfl rfl rfl rfl rfl) ?_
  rintro _ w h
  refine WL.a (WL.nil (W.sr (WL.m (WL.v (run_not rfl) (WL.nil (W.condT rfl ?_))))))
  refine W.sr (WL.v (run_loadB (vs := [.int .i64 _, .int .i64 _, .int .i64 _, .slice _ _ _, .int .i64 _]) h isAgg44 sizeOf44 rfl rfl rfl) (WL.e (eff_storeW (vs := [.int .i64 _, .int .i64 _, .int .i64 _, .slice _ _ _, .int .i64 _]) h sizeOf44 rfl rfl rfl rfl rfl) ?_))
  rintro _ w h
  refine WL.a (WL.nil (W.ret (bodyQ.rctB (vs := [.int .i64 _, .int .i64 _, .int .i64 _, .slice _ _ _, .int .i64 _]) (v2 := .slice _ _ _) h results89 isAgg44 sizeOf44 rfl rfl rfl rfl ?_)))
  have h : On W0 (Own 2 (.slice none 0 0) 0 (notesV 0 []) :: _) w := h.ownEmpty 2 none
  have e : clrF t i key = ⟨t, plain 24 0 0, [], 0⟩ := by unfold clrF; rw [if_pos hok]
  rw [e]
  dsimp only
  exact ⟨none, 0, rfl, h.to⟩
theorem upreempt_ok {b ii : Nat} {t : Tb} {key other typ : Int} (hi : ii < 8) (hI : t.hold = -1 ∨ (0 ≤ t.hold ∧ t.hold < 8)) (h : On W0 (blk b t.cells 154 :: L) w) : Calls Tryz.prog 90 #[.pointer (some ⟨b, 0, none⟩), .int .i64 (ii : Int), .int .u64 key, .int .u64 other, .int .i64 typ] w (Ret fun v w' => ∃ a c, v = .tuple #[(preF t ii key other typ).r.val (.slice none 0 0), .slice a (preF t ii key other typ).l.length c] ∧ On W0 (Own 2 (.slice a (preF t ii key other typ).l.length c) (preF t ii key other typ).l.length (notesV (preF t ii key other typ).code ((preF t ii key other typ).l)) :: blk b (preF t ii key other typ).t.cells 154 :: L) w') := by
  refine enter func90 rfl ntmps90 rfl (W.sr (WL.e (eff_box (v := .int .u64 _) (l := [.int .u64 _]) h rfl rfl) ?_))
  rintro _ w ⟨b8, rfl, h⟩
  refine WL.e (eff_alloc h zeroValue44 rfl) ?_
  rintro _ w ⟨b10, rfl, h⟩
  refine WL.a (WL.nil (W.seq (W.sr (WL.m (WL.m (WL.m ?_))))))
  refine WL.e (eff_call call120 (umay_ok (i := ii) hi (h.fetch (blk b t.cells 154)))) ?_
  rintro _ w ⟨hv, h⟩
  rcases hv with ⟨hok, rfl⟩ | ⟨hok, rfl⟩
  ·
   refine WL.m (WL.v (run_extract rfl rfl) (WL.v (run_extract rfl rfl) (WL.e (eff_alloc h zeroValue44 rfl) ?_)))
   rintro _ w ⟨b12, rfl, h⟩
   refine WL.e (eff_storeW (vs := [.int .i64 _, .int .i64 _, .int .i64 _, .slice _ _ _, .int .i64 _]) h sizeOf44 rfl rfl rfl rfl rfl) ?_
   rintro _ w h
   refine WL.a (WL.nil (W.sr (WL.m (WL.v (run_not rfl) (WL.nil (W.condF rfl ?_))))))
   refine W.skip (W.seq (W.sr (WL.l isAgg27 rfl (h.cellB rfl) (WL.v (run_eql rfl rfl) (WL.nil ?_)))))
   refine W.condIf rfl (fun c8 => ?_) (fun c8 => ?_)
   ·
    refine W.sr (WL.e (eff_call call49 (wrong_ok h)) ?_)
    rintro _ w ⟨rfl, h⟩
    refine WL.e (eff_storeW (vs := [.int .i64 _, .int .i64 _, .int .i64 _, .slice _ _ _, .int .i64 _]) h sizeOf44 rfl rfl rfl rfl rfl) ?_
    rintro _ w h
    refine WL.a (WL.nil (W.ret (bodyQ.rctB (vs := [.int .i64 _, .int .i64 _, .int .i64 _, .slice _ _ _, .int .i64 _]) (v2 := .slice _ _ _) h results90 isAgg44 sizeOf44 rfl rfl rfl rfl ?_)))
    have h : On W0 (Own 2 (.slice none 0 0) 0 (notesV 0 []) :: _) w := h.ownEmpty 2 none
    have e : preF t ii key other typ = ⟨t, plain 2 5 9728, [], 0⟩ := by unfold preF; rw [if_neg (by rw [hok]; decide), if_pos c8]
    rw [e]
    dsimp only
    exact ⟨none, 0, rfl, h.to⟩
   refine W.skip (W.sr (WL.m (WL.m (WL.v run_makeFunc (WL.e (eff_call call122 (others_ok (t := t) (b := b) (hh := (ii : Int)) (code := 10757) (f := 124) (caps := #[.pointer (some ⟨b8, 0, none⟩)]) (p := fun k => decide (k = other)) (h.fetch (blk b t.cells 154)) call124 (fun k A w h => preempt1_ok h))) ?_)))))
   rintro _ w ⟨a, hv, h⟩
   have hv2 : _ = Value.slice a (preL t ii other).length (preL t ii other).length := hv
   subst hv2
   have h : On W0 (Own 2 (.slice a (preL t ii other).length (preL t ii other).length) (preL t ii other).length (notesV 10757 (preL t ii other)) :: _) w := h
   have hlen : (preL t ii other).length ≤ 8 := hostsN_len ..
   refine WL.a (WL.nil (W.seq (W.sr (WL.m (WL.v (run_lenSlice underlying160 rfl) (WL.v (run_eql rfl rfl) ?_))))))
   refine WL.nil ?_
   refine W.condIf rfl (fun c14 => ?_) (fun c14 => ?_)
   ·
    refine W.sr (WL.e (eff_call call117 (conflict_ok h)) ?_)
    rintro _ w ⟨rfl, h⟩
    refine WL.e (eff_storeW (vs := [.int .i64 _, .int .i64 _, .int .i64 _, .slice _ _ _, .int .i64 _]) h sizeOf44 rfl rfl rfl rfl rfl) ?_
    rintro _ w h
    refine WL.a (WL.nil (W.ret (bodyQ.rctB (vs := [.int .i64 _, .int .i64 _, .int .i64 _, .slice _ _ _, .int .i64 _]) (v2 := .slice _ _ _) h results90 isAgg44 sizeOf44 rfl rfl rfl rfl ?_)))
    have h : On W0 (Own 2 (.slice none 0 0) 0 (notesV 0 []) :: _) w := h.ownEmpty 2 none
    have e : preF t ii key other typ = ⟨t, plain 24 0 0, [], 0⟩ := by unfold preF; rw [if_neg (by rw [hok]; decide), if_neg c8, if_pos (List.eq_nil_of_length_eq_zero (by omega))]
    rw [e]
    dsimp only
    exact ⟨none, 0, rfl, h.to⟩
   refine W.skip (W.seq (W.seq ?_))
   refine W.draw Tryz.follows h (fun w h => ?_)
   refine WT.m 0 rfl (WT.n 1 rfl rfl (WT.f 2 8 rfl underlying154 rfl sizeOf3 rfl rfl (WT.l 3 rfl isAgg3 rfl (h.cellB rfl) ?_)))
   refine WT.dec 4 rfl (by kernel_rfl) (fun w' => (run_neq rfl rfl)) rfl rfl (fun c42 => ?_) (fun c42 => ?_)
   ·
    refine WT.m 5 rfl (WT.m 6 rfl (WT.n 7 rfl rfl (WT.f 8 8 rfl underlying154 rfl sizeOf3 rfl rfl (WT.l 9 rfl isAgg3 rfl (h.cellB rfl) (WT.m 10 rfl ?_)))))
    refine WT.dec 11 rfl (by kernel_rfl) (fun w' => (run_neq rfl rfl)) rfl rfl (fun c49 => ?_) (fun c49 => ?_)
    ·
     refine WT.p 12 rfl (fun w' => (run_pickT rfl)) (WT.m 13 rfl (WT.m 14 rfl (WT.m 15 rfl (WT.n 16 rfl rfl (WT.f 17 8 rfl underlying154 rfl sizeOf3 rfl rfl (WT.l 18 rfl isAgg3 rfl (h.cellB rfl) (WT.n 19 rfl rfl ?_)))))))
     refine WT.f 20 0 rfl underlying154 rfl sizeOf152 rfl rfl (WT.p 21 rfl (fun w' => (run_indexAddrArr underlying152 sizeOf27 rfl rfl (by omega) (by omega))) (WT.l 22 rfl isAgg27 rfl (h.cellB (cells_atI (by omega) (by omega))) (WT.l 23 rfl isAgg27 rfl (h.cellB rfl) ?_)))
     refine WT.dec 24 rfl (by kernel_rfl) (fun w' => (run_eql rfl rfl)) rfl rfl (fun c62 => ?_) (fun c62 => ?_)
     ·
      refine WT.p 25 rfl (fun w' => (run_pickT rfl)) (WT.dn (W.condT rfl (W.seq (W.seq ?_))))
      have htk : takesP t ii other := ⟨c42, c49, c62⟩
      refine W.region (WL.m (WL.e (eff_call call121 (typed_ok h)) ?_))
      rintro _ w ⟨hv, h⟩
      have hcs := Bool.eq_false_or_eq_true (typedB typ)
      rcases hcs with hty | hty <;> (rw [hty] at hv; subst hv)
      ·
       refine WL.v (run_not rfl) (WL.nil (W.condF rfl (W.skip (W.region (WL.m (WL.m (WL.m ?_)))))))
       refine WL.m (WL.n rfl (WL.f 8 underlying154 rfl sizeOf3 rfl rfl (WL.e (eff_store (v := .int .i64 _) h sizeOf3 rfl rfl rfl rfl rfl) ?_)))
       rintro _ w h
       try simp only [Nat.zero_add, Nat.add_zero, List.set_cons_zero, List.set_cons_succ] at h
       refine WL.n rfl (WL.f 9 underlying154 rfl sizeOf3 rfl rfl (WL.e (eff_store (v := .int .i64 _) h sizeOf3 rfl rfl rfl rfl rfl) ?_))
       rintro _ w h
       try simp only [Nat.zero_add, Nat.add_zero, List.set_cons_zero, List.set_cons_succ] at h
       refine WL.nil (W.seq ?_)
       have h := h.fetch (blk b ((t.cells.set (0 + 8) (.int .i64 ii)).set (0 + 9) (.int .i64 typ)) 154)
       have h : On W0 (blk b (t.take ii typ).cells 154 :: _) w := h
       refine W.region (WL.m (WL.n rfl (WL.f 10 underlying154 rfl sizeOf24 rfl rfl (WL.l isAgg24 rfl (h.cellB rfl) (WL.v (run_addW rfl rfl) (WL.n rfl (WL.f 10 underlying154 rfl sizeOf24 rfl rfl ?_)))))))
       refine WL.e (eff_store (v := .int .u32 _) h sizeOf24 rfl rfl rfl rfl rfl) ?_
       rintro _ w h
       try simp only [Nat.zero_add, Nat.add_zero, List.set_cons_zero, List.set_cons_succ] at h
       refine WL.nil (W.seq (W.seq ?_))
       have et0 : preT0 t ii other typ = (t.take ii typ).inc := by unfold preT0; rw [if_pos htk]
       have h := h.fetch (blk b ((t.take ii typ).cells.set (0 + 10) (.int .u32 (IntKind.u32.wrap ((t.take ii typ).gen + 1)))) 154)
       have h : On W0 (blk b (t.take ii typ).inc.cells 154 :: _) w := h
       rw [← et0, ← zer_nil (preT0 t ii other typ)] at h
       have h : On W0 (Own 2 (.slice a (preL t ii other).length (preL t ii other).length) (preL t ii other).length (notesV 10757 (preL t ii other)) :: blk b (zer (preT0 t ii other typ) []).cells 154 :: blk b10 [.int .i64 0, .int .i64 0, .int .i64 0, .slice none 0 0, .int .i64 0] 44 :: L) w := h.to
       refine W.region (WL.m (WL.v (run_lenSlice underlying160 rfl) (WL.m (WL.nil (W.block ?_)))))
       refine W.loop (fun (q : Nat) env w => ∃ j, env = mkE j [(0, .pointer (some ⟨b, 0, none⟩)), (1, .int .i64 (ii : Int)), (10, .pointer (some ⟨b10, 0, none⟩)), (14, .slice a (preL t ii other).length (preL t ii other).length), (83, .slice a (preL t ii other).length (preL t ii other).length), (84, .int .i64 (((preL t ii other).length : Nat) : Int)), (85, .int .i64 (q : Int))] ∧ q ≤ (preL t ii other).length ∧ On W0 (Own 2 (.slice a (preL t ii other).length (preL t ii other).length) (preL t ii other).length (notesV 10757 (preL t ii other)) :: blk b (zer (preT0 t ii other typ) ((preL t ii other).take q)).cells 154 :: blk b10 [.int .i64 0, .int .i64 0, .int .i64 0, .slice none 0 0, .int .i64 0] 44 :: L) w) (fun q => (preL t ii other).length - q) (0) ?_ ?_
       · exact ⟨_, mkE_of ⟨rfl, rfl, rfl, rfl, rfl, rfl, rfl, trivial⟩, Nat.zero_le _, h⟩
       rintro q env w ⟨j, rfl, hq, h⟩
       refine W.sr (WL.v (run_lss rfl rfl) (WL.nil (W.seq ?_)))
       refine W.condIf rfl (fun c32 => ?_) (fun c32 => ?_)
       ·
        refine W.skip (W.seq (W.block (W.seq ?_)))
        have hql : q < (preL t ii other).length := by omega
        have ob_ : ∃ i, (preL t ii other)[q]? = some i := ⟨(preL t ii other)[q], by simp⟩
        obtain ⟨i, hi⟩ := ob_
        have hi8 : i < 8 := (hostsN_mem.1 (List.mem_of_getElem? hi)).1
        have ob_ := Own.addr h (by omega)
        obtain ⟨bn, on, rfl⟩ := ob_
        refine W.region (WL.v (run_indexAddr underlying160 sizeOf198 rfl rfl (by omega) (by omega)) (WL.v (run_loadN isAgg198 sizeOf198 rfl rfl ((h.cellsO (v := .slice (some ⟨bn, on, none⟩) (preL t ii other).length (preL t ii other).length)).elem (i := q) (vs := noteV 10757 i) hql (drop_flatMap (noteV 10757) 2 (noteV_length 10757) (preL t ii other) _ _ hi))) (WL.e (eff_alloc h zeroValue198 rfl) ?_)))
        rintro _ w ⟨b16, rfl, h⟩
        refine WL.e (eff_storeW (vs := [.int .i64 _, .int .i64 _]) h sizeOf198 rfl rfl rfl rfl rfl) ?_
        rintro _ w h
        refine WL.nil ?_
        refine W.draw Tryz.follows h (fun w h => ?_)
        refine WT.m 0 rfl (WT.f 1 0 rfl underlying198 rfl sizeOf3 rfl rfl (WT.l 2 rfl isAgg3 rfl (h.cellB rfl) (WT.n 3 rfl rfl (WT.f 4 0 rfl underlying154 rfl sizeOf152 rfl rfl (WT.p 5 rfl (fun w' => (run_indexAddrArr underlying152 sizeOf27 rfl rfl (by omega) (by omega))) (WT.e 6 [false] rfl (eff_store (v := .int .u64 _) h sizeOf27 rfl rfl rfl (cells_lt hi8) (free0 _)) ?_))))))
        rintro _ w h
        rw [cells_set hi8, ← zer_snoc, ← RsM.take_snoc hi] at h
        refine ⟨trivial, ?_⟩
        refine WT.dn (W.region (WL.v (run_incN rfl rfl (by omega)) (WL.m (WL.nil ?_))))
        exact ⟨q + 1, ⟨_, mkE_of ⟨rfl, rfl, rfl, rfl, rfl, rfl, rfl, trivial⟩, by omega, h.to⟩, by show (preL t ii other).length - (q + 1) < (preL t ii other).length - q; omega⟩
       refine W.exit (W.sr (WL.e (eff_call call119 (good_ok h)) ?_))
       rintro _ w ⟨rfl, h⟩
       refine WL.m (WL.e (eff_storeW (vs := [.int .i64 _, .int .i64 _, .int .i64 _, .slice _ _ _, .int .i64 _]) h sizeOf44 rfl rfl rfl rfl rfl) ?_)
       rintro _ w h
       refine WL.a (WL.nil (W.ret (bodyQ.rctB (vs := [.int .i64 _, .int .i64 _, .int .i64 _, .slice _ _ _, .int .i64 _]) (v2 := .slice _ _ _) h results90 isAgg44 sizeOf44 rfl rfl rfl rfl ?_)))
       have ob_ : q = (preL t ii other).length := by omega
       obtain rfl := ob_
       rw [List.take_length] at h
       have h : On W0 (Own 2 (.slice a (preL t ii other).length (preL t ii other).length) (preL t ii other).length (notesV 10757 (preL t ii other)) :: blk b (preT t ii other typ).cells 154 :: _) w := h
       have e : preF t ii key other typ = ⟨preT t ii other typ, plain 0 0 0, preL t ii other, 10757⟩ := by unfold preF; rw [if_neg (by rw [hok]; decide), if_neg c8, if_neg (fun e => c14 (by rw [e]; rfl)), if_neg (fun hx => by rw [hx.2] at hty; cases hty)]
       rw [e]
       dsimp only
       exact ⟨a, (preL t ii other).length, rfl, h.to⟩
      refine WL.v (run_not rfl) (WL.nil (W.condT rfl (W.sr (WL.e (eff_call call116 (field_ok h)) ?_))))
      rintro _ w ⟨rfl, h⟩
      refine WL.e (eff_storeW (vs := [.int .i64 _, .int .i64 _, .int .i64 _, .slice _ _ _, .int .i64 _]) h sizeOf44 rfl rfl rfl rfl rfl) ?_
      rintro _ w h
      refine WL.a (WL.nil (W.ret (bodyQ.rctB (vs := [.int .i64 _, .int .i64 _, .int .i64 _, .slice _ _ _, .int .i64 _]) (v2 := .slice _ _ _) h results90 isAgg44 sizeOf44 rfl rfl rfl rfl ?_)))
      have h : On W0 (Own 2 (.slice none 0 0) 0 (notesV 0 []) :: _) w := h.ownEmpty 2 none
      have e : preF t ii key other typ = ⟨t, plain 2 5 9216, [], 0⟩ := by unfold preF; rw [if_neg (by rw [hok]; decide), if_neg c8, if_neg (fun e => c14 (by rw [e]; rfl)), if_pos ⟨htk, hty⟩]
      rw [e]
      dsimp only
      exact ⟨none, 0, rfl, h.to⟩
     refine WT.p 25 rfl (fun w' => (run_pickT rfl)) (WT.dn (W.condF rfl (W.skip (W.seq ?_))))
     have htk : ¬ takesP t ii other := fun hx => c62 hx.2.2
     refine W.region (WL.m (WL.n rfl (WL.f 10 underlying154 rfl sizeOf24 rfl rfl (WL.l isAgg24 rfl (h.cellB rfl) (WL.v (run_addW rfl rfl) (WL.n rfl (WL.f 10 underlying154 rfl sizeOf24 rfl rfl ?_)))))))
     refine WL.e (eff_store (v := .int .u32 _) h sizeOf24 rfl rfl rfl rfl rfl) ?_
     rintro _ w h
     try simp only [Nat.zero_add, Nat.add_zero, List.set_cons_zero, List.set_cons_succ] at h
     refine WL.nil (W.seq (W.seq ?_))
     have et0 : preT0 t ii other typ = t.inc := by unfold preT0; rw [if_neg htk]
     have h := h.fetch (blk b (t.cells.set (0 + 10) (.int .u32 (IntKind.u32.wrap (t.gen + 1)))) 154)
     have h : On W0 (blk b t.inc.cells 154 :: _) w := h
     rw [← et0, ← zer_nil (preT0 t ii other typ)] at h
     have h : On W0 (Own 2 (.slice a (preL t ii other).length (preL t ii other).length) (preL t ii other).length (notesV 10757 (preL t ii other)) :: blk b (zer (preT0 t ii other typ) []).cells 154 :: blk b10 [.int .i64 0, .int .i64 0, .int .i64 0, .slice none 0 0, .int .i64 0] 44 :: L) w := h.to
     refine W.region (WL.m (WL.v (run_lenSlice underlying160 rfl) (WL.m (WL.nil (W.block ?_)))))
     refine W.loop (fun (q : Nat) env w => ∃ j, env = mkE j [(0, .pointer (some ⟨b, 0, none⟩)), (1, .int .i64 (ii : Int)), (10, .pointer (some ⟨b10, 0, none⟩)), (14, .slice a (preL t ii other).length (preL t ii other).length), (83, .slice a (preL t ii other).length (preL t ii other).length), (84, .int .i64 (((preL t ii other).length : Nat) : Int)), (85, .int .i64 (q : Int))] ∧ q ≤ (preL t ii other).length ∧ On W0 (Own 2 (.slice a (preL t ii other).length (preL t ii other).length) (preL t ii other).length (notesV 10757 (preL t ii other)) :: blk b (zer (preT0 t ii other typ) ((preL t ii other).take q)).cells 154 :: blk b10 [.int .i64 0, .int .i64 0, .int .i64 0, .slice none 0 0, .int .i64 0] 44 :: L) w) (fun q => (preL t ii other).length - q) (0) ?_ ?_
     · exact ⟨_, mkE_of ⟨rfl, rfl, rfl, rfl, rfl, rfl, rfl, trivial⟩, Nat.zero_le _, h⟩
     rintro q env w ⟨j, rfl, hq, h⟩
     refine W.sr (WL.v (run_lss rfl rfl) (WL.nil (W.seq ?_)))
     refine W.condIf rfl (fun c32 => ?_) (fun c32 => ?_)
     ·
      refine W.skip (W.seq (W.block (W.seq ?_)))
      have hql : q < (preL t ii other).length := by omega
      have ob_ : ∃ i, (preL t ii other)[q]? = some i := ⟨(preL t ii other)[q], by simp⟩
      obtain ⟨i, hi⟩ := ob_
      have hi8 : i < 8 := (hostsN_mem.1 (List.mem_of_getElem? hi)).1
      have ob_ := Own.addr h (by omega)
      obtain ⟨bn, on, rfl⟩ := ob_
      refine W.region (WL.v (run_indexAddr underlying160 sizeOf198 rfl rfl (by omega) (by omega)) (WL.v (run_loadN isAgg198 sizeOf198 rfl rfl ((h.cellsO (v := .slice (some ⟨bn, on, none⟩) (preL t ii other).length (preL t ii other).length)).elem (i := q) (vs := noteV 10757 i) hql (drop_flatMap (noteV 10757) 2 (noteV_length 10757) (preL t ii other) _ _ hi))) (WL.e (eff_alloc h zeroValue198 rfl) ?_)))
      rintro _ w ⟨b16, rfl, h⟩
      refine WL.e (eff_storeW (vs := [.int .i64 _, .int .i64 _]) h sizeOf198 rfl rfl rfl rfl rfl) ?_
      rintro _ w h
      refine WL.nil ?_
      refine W.draw Tryz.follows h (fun w h => ?_)
      refine WT.m 0 rfl (WT.f 1 0 rfl underlying198 rfl sizeOf3 rfl rfl (WT.l 2 rfl isAgg3 rfl (h.cellB rfl) (WT.n 3 rfl rfl (WT.f 4 0 rfl underlying154 rfl sizeOf152 rfl rfl (WT.p 5 rfl (fun w' => (run_indexAddrArr underlying152 sizeOf27 rfl rfl (by omega) (by omega))) (WT.e 6 [false] rfl (eff_store (v := .int .u64 _) h sizeOf27 rfl rfl rfl (cells_lt hi8) (free0 _)) ?_))))))
      rintro _ w h
      rw [cells_set hi8, ← zer_snoc, ← RsM.take_snoc hi] at h
      refine ⟨trivial, ?_⟩
      refine WT.dn (W.region (WL.v (run_incN rfl rfl (by omega)) (WL.m (WL.nil ?_))))
      exact ⟨q + 1, ⟨_, mkE_of ⟨rfl, rfl, rfl, rfl, rfl, rfl, rfl, trivial⟩, by omega, h.to⟩, by show (preL t ii other).length - (q + 1) < (preL t ii other).length - q; omega⟩
     refine W.exit (W.sr (WL.e (eff_call call119 (good_ok h)) ?_))
     rintro _ w ⟨rfl, h⟩
     refine WL.m (WL.e (eff_storeW (vs := [.int .i64 _, .int .i64 _, .int .i64 _, .slice _ _ _, .int .i64 _]) h sizeOf44 rfl rfl rfl rfl rfl) ?_)
     rintro _ w h
     refine WL.a (WL.nil (W.ret (bodyQ.rctB (vs := [.int .i64 _, .int .i64 _, .int .i64 _, .slice _ _ _, .int .i64 _]) (v2 := .slice _ _ _) h results90 isAgg44 sizeOf44 rfl rfl rfl rfl ?_)))
     have ob_ : q = (preL t ii other).length := by omega
     obtain rfl := ob_
     rw [List.take_length] at h
     have h : On W0 (Own 2 (.slice a (preL t ii other).length (preL t ii other).length) (preL t ii other).length (notesV 10757 (preL t ii other)) :: blk b (preT t ii other typ).cells 154 :: _) w := h
     have e : preF t ii key other typ = ⟨preT t ii other typ, plain 0 0 0, preL t ii other, 10757⟩ := by unfold preF; rw [if_neg (by rw [hok]; decide), if_neg c8, if_neg (fun e => c14 (by rw [e]; rfl)), if_neg (fun hx => htk hx.1)]
     rw [e]
     dsimp only
     exact ⟨a, (preL t ii other).length, rfl, h.to⟩
    refine WT.p 12 rfl (fun w' => (run_pickT rfl)) (WT.m 13 rfl (WT.skip 14 rfl (by kernel_rfl) rfl rfl (WT.skip 15 rfl (by kernel_rfl) rfl rfl (WT.skip 16 rfl (by kernel_rfl) rfl rfl (WT.skip 17 rfl (by kernel_rfl) rfl rfl (WT.skip 18 rfl (by kernel_rfl) rfl rfl (WT.skip 19 rfl (by kernel_rfl) rfl rfl ?_)))))))
    refine WT.skip 20 rfl (by kernel_rfl) rfl rfl (WT.skip 21 rfl (by kernel_rfl) rfl rfl (WT.skip 22 rfl (by kernel_rfl) rfl rfl (WT.skip 23 rfl (by kernel_rfl) rfl rfl (WT.skip 24 rfl (by kernel_rfl) rfl rfl (WT.p 25 rfl (fun w' => (run_pickF rfl)) (WT.dn (W.condF rfl ?_)))))))
    refine W.skip (W.seq ?_)
    have htk : ¬ takesP t ii other := fun hx => c49 hx.2.1
    refine W.region (WL.m (WL.n rfl (WL.f 10 underlying154 rfl sizeOf24 rfl rfl (WL.l isAgg24 rfl (h.cellB rfl) (WL.v (run_addW rfl rfl) (WL.n rfl (WL.f 10 underlying154 rfl sizeOf24 rfl rfl ?_)))))))
    refine WL.e (eff_store (v := .int .u32 _) h sizeOf24 rfl rfl rfl rfl rfl) ?_
    rintro _ w h
    try simp only [Nat.zero_add, Nat.add_zero, List.set_cons_zero, List.set_cons_succ] at h
    refine WL.nil (W.seq (W.seq ?_))
    have et0 : preT0 t ii other typ = t.inc := by unfold preT0; rw [if_neg htk]
    have h := h.fetch (blk b (t.cells.set (0 + 10) (.int .u32 (IntKind.u32.wrap (t.gen + 1)))) 154)
    have h : On W0 (blk b t.inc.cells 154 :: _) w := h
    rw [← et0, ← zer_nil (preT0 t ii other typ)] at h
    have h : On W0 (Own 2 (.slice a (preL t ii other).length (preL t ii other).length) (preL t ii other).length (notesV 10757 (preL t ii other)) :: blk b (zer (preT0 t ii other typ) []).cells 154 :: blk b10 [.int .i64 0, .int .i64 0, .int .i64 0, .slice none 0 0, .int .i64 0] 44 :: L) w := h.to
    refine W.region (WL.m (WL.v (run_lenSlice underlying160 rfl) (WL.m (WL.nil (W.block ?_)))))
    refine W.loop (fun (q : Nat) env w => ∃ j, env = mkE j [(0, .pointer (some ⟨b, 0, none⟩)), (1, .int .i64 (ii : Int)), (10, .pointer (some ⟨b10, 0, none⟩)), (14, .slice a (preL t ii other).length (preL t ii other).length), (83, .slice a (preL t ii other).length (preL t ii other).length), (84, .int .i64 (((preL t ii other).length : Nat) : Int)), (85, .int .i64 (q : Int))] ∧ q ≤ (preL t ii other).length ∧ On W0 (Own 2 (.slice a (preL t ii other).length (preL t ii other).length) (preL t ii other).length (notesV 10757 (preL t ii other)) :: blk b (zer (preT0 t ii other typ) ((preL t ii other).take q)).cells 154 :: blk b10 [.int .i64 0, .int .i64 0, .int .i64 0, .slice none 0 0, .int .i64 0] 44 :: L) w) (fun q => (preL t ii other).length - q) (0) ?_ ?_
    · exact ⟨_, mkE_of ⟨rfl, rfl, rfl, rfl, rfl, rfl, rfl, trivial⟩, Nat.zero_le _, h⟩
    rintro q env w ⟨j, rfl, hq, h⟩
    refine W.sr (WL.v (run_lss rfl rfl) (WL.nil (W.seq ?_)))
    refine W.condIf rfl (fun c32 => ?_) (fun c32 => ?_)
    ·
     refine W.skip (W.seq (W.block (W.seq ?_)))
     have hql : q < (preL t ii other).length := by omega
     have ob_ : ∃ i, (preL t ii other)[q]? = some i := ⟨(preL t ii other)[q], by simp⟩
     obtain ⟨i, hi⟩ := ob_
     have hi8 : i < 8 := (hostsN_mem.1 (List.mem_of_getElem? hi)).1
     have ob_ := Own.addr h (by omega)
     obtain ⟨bn, on, rfl⟩ := ob_
     refine W.region (WL.v (run_indexAddr underlying160 sizeOf198 rfl rfl (by omega) (by omega)) (WL.v (run_loadN isAgg198 sizeOf198 rfl rfl ((h.cellsO (v := .slice (some ⟨bn, on, none⟩) (preL t ii other).length (preL t ii other).length)).elem (i := q) (vs := noteV 10757 i) hql (drop_flatMap (noteV 10757) 2 (noteV_length 10757) (preL t ii other) _ _ hi))) (WL.e (eff_alloc h zeroValue198 rfl) ?_)))
     rintro _ w ⟨b16, rfl, h⟩
     refine WL.e (eff_storeW (vs := [.int .i64 _, .int .i64 _]) h sizeOf198 rfl rfl rfl rfl rfl) ?_
     rintro _ w h
     refine WL.nil ?_
     refine W.draw Tryz.follows h (fun w h => ?_)
     refine WT.m 0 rfl (WT.f 1 0 rfl underlying198 rfl sizeOf3 rfl rfl (WT.l 2 rfl isAgg3 rfl (h.cellB rfl) (WT.n 3 rfl rfl (WT.f 4 0 rfl underlying154 rfl sizeOf152 rfl rfl (WT.p 5 rfl (fun w' => (run_indexAddrArr underlying152 sizeOf27 rfl rfl (by omega) (by omega))) (WT.e 6 [false] rfl (eff_store (v := .int .u64 _) h sizeOf27 rfl rfl rfl (cells_lt hi8) (free0 _)) ?_))))))
     rintro _ w h
     rw [cells_set hi8, ← zer_snoc, ← RsM.take_snoc hi] at h
     refine ⟨trivial, ?_⟩
     refine WT.dn (W.region (WL.v (run_incN rfl rfl (by omega)) (WL.m (WL.nil ?_))))
     exact ⟨q + 1, ⟨_, mkE_of ⟨rfl, rfl, rfl, rfl, rfl, rfl, rfl, trivial⟩, by omega, h.to⟩, by show (preL t ii other).length - (q + 1) < (preL t ii other).length - q; omega⟩
    refine W.exit (W.sr (WL.e (eff_call call119 (good_ok h)) ?_))
    rintro _ w ⟨rfl, h⟩
    refine WL.m (WL.e (eff_storeW (vs := [.int .i64 _, .int .i64 _, .int .i64 _, .slice _ _ _, .int .i64 _]) h sizeOf44 rfl rfl rfl rfl rfl) ?_)
    rintro _ w h
    refine WL.a (WL.nil (W.ret (bodyQ.rctB (vs := [.int .i64 _, .int .i64 _, .int .i64 _, .slice _ _ _, .int .i64 _]) (v2 := .slice _ _ _) h results90 isAgg44 sizeOf44 rfl rfl rfl rfl ?_)))
    have ob_ : q = (preL t ii other).length := by omega
    obtain rfl := ob_
    rw [List.take_length] at h
    have h : On W0 (Own 2 (.slice a (preL t ii other).length (preL t ii other).length) (preL t ii other).length (notesV 10757 (preL t ii other)) :: blk b (preT t ii other typ).cells 154 :: _) w := h
    have e : preF t ii key other typ = ⟨preT t ii other typ, plain 0 0 0, preL t ii other, 10757⟩ := by unfold preF; rw [if_neg (by rw [hok]; decide), if_neg c8, if_neg (fun e => c14 (by rw [e]; rfl)), if_neg (fun hx => htk hx.1)]
    rw [e]
    dsimp only
    exact ⟨a, (preL t ii other).length, rfl, h.to⟩
   refine WT.m 5 rfl (WT.skip 6 rfl (by kernel_rfl) rfl rfl (WT.skip 7 rfl (by kernel_rfl) rfl rfl (WT.skip 8 rfl (by kernel_rfl) rfl rfl (WT.skip 9 rfl (by kernel_rfl) rfl rfl (WT.skip 10 rfl (by kernel_rfl) rfl rfl (WT.skip 11 rfl (by kernel_rfl) rfl rfl (WT.p 12 rfl (fun w' => (run_pickF rfl)) ?_)))))))
   refine WT.m 13 rfl (WT.skip 14 rfl (by kernel_rfl) rfl rfl (WT.skip 15 rfl (by kernel_rfl) rfl rfl (WT.skip 16 rfl (by kernel_rfl) rfl rfl (WT.skip 17 rfl (by kernel_rfl) rfl rfl (WT.skip 18 rfl (by kernel_rfl) rfl rfl (WT.skip 19 rfl (by kernel_rfl) rfl rfl (WT.skip 20 rfl (by kernel_rfl) rfl rfl ?_)))))))
   refine WT.skip 21 rfl (by kernel_rfl) rfl rfl (WT.skip 22 rfl (by kernel_rfl) rfl rfl (WT.skip 23 rfl (by kernel_rfl) rfl rfl (WT.skip 24 rfl (by kernel_rfl) rfl rfl (WT.p 25 rfl (fun w' => (run_pickF rfl)) (WT.dn (W.condF rfl (W.skip ?_)))))))
   refine W.seq ?_
   have htk : ¬ takesP t ii other := fun hx => c42 hx.1
   refine W.region (WL.m (WL.n rfl (WL.f 10 underlying154 rfl sizeOf24 rfl rfl (WL.l isAgg24 rfl (h.cellB rfl) (WL.v (run_addW rfl rfl) (WL.n rfl (WL.f 10 underlying154 rfl sizeOf24 rfl rfl ?_)))))))
   refine WL.e (eff_store (v := .int .u32 _) h sizeOf24 rfl rfl rfl rfl rfl) ?_
   rintro _ w h
   try simp only [Nat.zero_add, Nat.add_zero, List.set_cons_zero, List.set_cons_succ] at h
   refine WL.nil (W.seq (W.seq ?_))
   have et0 : preT0 t ii other typ = t.inc := by unfold preT0; rw [if_neg htk]
   have h := h.fetch (blk b (t.cells.set (0 + 10) (.int .u32 (IntKind.u32.wrap (t.gen + 1)))) 154)
   have h : On W0 (blk b t.inc.cells 154 :: _) w := h
   rw [← et0, ← zer_nil (preT0 t ii other typ)] at h
   have h : On W0 (Own 2 (.slice a (preL t ii other).length (preL t ii other).length) (preL t ii other).length (notesV 10757 (preL t ii other)) :: blk b (zer (preT0 t ii other typ) []).cells 154 :: blk b10 [.int .i64 0, .int .i64 0, .int .i64 0, .slice none 0 0, .int .i64 0] 44 :: L) w := h.to
   refine W.region (WL.m (WL.v (run_lenSlice underlying160 rfl) (WL.m (WL.nil (W.block ?_)))))
   refine W.loop (fun (q : Nat) env w => ∃ j, env = mkE j [(0, .pointer (some ⟨b, 0, none⟩)), (1, .int .i64 (ii : Int)), (10, .pointer (some ⟨b10, 0, none⟩)), (14, .slice a (preL t ii other).length (preL t ii other).length), (83, .slice a (preL t ii other).length (preL t ii other).length), (84, .int .i64 (((preL t ii other).length : Nat) : Int)), (85, .int .i64 (q : Int))] ∧ q ≤ (preL t ii other).length ∧ On W0 (Own 2 (.slice a (preL t ii other).length (preL t ii other).length) (preL t ii other).length (notesV 10757 (preL t ii other)) :: blk b (zer (preT0 t ii other typ) ((preL t ii other).take q)).cells 154 :: blk b10 [.int .i64 0, .int .i64 0, .int .i64 0, .slice none 0 0, .int .i64 0] 44 :: L) w) (fun q => (preL t ii other).length - q) (0) ?_ ?_
   · exact ⟨_, mkE_of ⟨rfl, rfl, rfl, rfl, rfl, rfl, rfl, trivial⟩, Nat.zero_le _, h⟩
   rintro q env w ⟨j, rfl, hq, h⟩
   refine W.sr (WL.v (run_lss rfl rfl) (WL.nil (W.seq ?_)))
   refine W.condIf rfl (fun c32 => ?_) (fun c32 => ?_)
   ·
    refine W.skip (W.seq (W.block (W.seq ?_)))
    have hql : q < (preL t ii other).length := by omega
    have ob_ : ∃ i, (preL t ii other)[q]? = some i := ⟨(preL t ii other)[q], by simp⟩
    obtain ⟨i, hi⟩ := ob_
    have hi8 : i < 8 := (hostsN_mem.1 (List.mem_of_getElem? hi)).1
    have ob_ := Own.addr h (by omega)
    obtain ⟨bn, on, rfl⟩ := ob_
    refine W.region (WL.v (run_indexAddr underlying160 sizeOf198 rfl rfl (by omega) (by omega)) (WL.v (run_loadN isAgg198 sizeOf198 rfl rfl ((h.cellsO (v := .slice (some ⟨bn, on, none⟩) (preL t ii other).length (preL t ii other).length)).elem (i := q) (vs := noteV 10757 i) hql (drop_flatMap (noteV 10757) 2 (noteV_length 10757) (preL t ii other) _ _ hi))) (WL.e (eff_alloc h zeroValue198 rfl) ?_)))
    rintro _ w ⟨b16, rfl, h⟩
    refine WL.e (eff_storeW (vs := [.int .i64 _, .int .i64 _]) h sizeOf198 rfl rfl rfl rfl rfl) ?_
    rintro _ w h
    refine WL.nil ?_
    refine W.draw Tryz.follows h (fun w h => ?_)
    refine WT.m 0 rfl (WT.f 1 0 rfl underlying198 rfl sizeOf3 rfl rfl (WT.l 2 rfl isAgg3 rfl (h.cellB rfl) (WT.n 3 rfl rfl (WT.f 4 0 rfl underlying154 rfl sizeOf152 rfl rfl (WT.p 5 rfl (fun w' => (run_indexAddrArr underlying152 sizeOf27 rfl rfl (by omega) (by omega))) (WT.e 6 [false] rfl (eff_store (v := .int .u64 _) h sizeOf27 rfl rfl rfl (cells_lt hi8) (free0 _)) ?_))))))
    rintro _ w h
    rw [cells_set hi8, ← zer_snoc, ← RsM.take_snoc hi] at h
    refine ⟨trivial, ?_⟩
    refine WT.dn (W.region (WL.v (run_incN rfl rfl (by omega)) (WL.m (WL.nil ?_))))
    exact ⟨q + 1, ⟨_, mkE_of ⟨rfl, rfl, rfl, rfl, rfl, rfl, rfl, trivial⟩, by omega, h.to⟩, by show (preL t ii other).length - (q + 1) < (preL t ii other).length - q; omega⟩
   refine W.exit (W.sr (WL.e (eff_call call119 (good_ok h)) ?_))
   rintro _ w ⟨rfl, h⟩
   refine WL.m (WL.e (eff_storeW (vs := [.int .i64 _, .int .i64 _, .int .i64 _, .slice _ _ _, .int .i64 _]) h sizeOf44 rfl rfl rfl rfl rfl) ?_)
   rintro _ w h
   refine WL.a (WL.nil (W.ret (bodyQ.rctB (vs := [.int .i64 _, .int .i64 _, .int .i64 _, .slice _ _ _, .int .i64 _]) (v2 := .slice _ _ _) h results90 isAgg44 sizeOf44 rfl rfl rfl rfl ?_)))
   have ob_ : q = (preL t ii other).length := by omega
   obtain rfl := ob_
   rw [List.take_length] at h
   have h : On W0 (Own 2 (.slice a (preL t ii other).length (preL t ii other).length) (preL t ii other).length (notesV 10757 (preL t ii other)) :: blk b (preT t ii other typ).cells 154 :: _) w := h
   have e : preF t ii key other typ = ⟨preT t ii other typ, plain 0 0 0, preL t ii other, 10757⟩ := by unfold preF; rw [if_neg (by rw [hok]; decide), if_neg c8, if_neg (fun e => c14 (by rw [e]; rfl)), if_neg (fun hx => htk hx.1)]
   rw [e]
   dsimp only
   exact ⟨a, (preL t ii other).length, rfl, h.to⟩
  refine WL.m (WL.v (run_extract rfl rfl) (WL.v (run_extract rfl rfl) (WL.e (eff_alloc h zeroValue44 rfl) ?_)))
  rintro _ w ⟨b12, rfl, h⟩
  refine WL.e (eff_storeW (vs := [.int .i64 _, .int .i64 _, .int .i64 _, .slice _ _ _, .int .i64 _]) h sizeOf44 rfl rfl rfl rfl rfl) ?_
  rintro _ w h
  refine WL.a (WL.nil (W.sr (WL.m (WL.v (run_not rfl) (WL.nil (W.condT rfl ?_))))))
  refine W.sr (WL.v (run_loadB (vs := [.int .i64 _, .int .i64 _, .int .i64 _, .slice _ _ _, .int .i64 _]) h isAgg44 sizeOf44 rfl rfl rfl) (WL.e (eff_storeW (vs := [.int .i64 _, .int .i64 _, .int .i64 _, .slice _ _ _, .int .i64 _]) h sizeOf44 rfl rfl rfl rfl rfl) ?_))
  rintro _ w h
  refine WL.a (WL.nil (W.ret (bodyQ.rctB (vs := [.int .i64 _, .int .i64 _, .int .i64 _, .slice _ _ _, .int .i64 _]) (v2 := .slice _ _ _) h results90 isAgg44 sizeOf44 rfl rfl rfl rfl ?_)))
  have h : On W0 (Own 2 (.slice none 0 0) 0 (notesV 0 []) :: _) w := h.ownEmpty 2 none
  have e : preF t ii key other typ = ⟨t, plain 24 0 0, [], 0⟩ := by unfold preF; rw [if_pos hok]
  rw [e]
  dsimp only
  exact ⟨none, 0, rfl, h.to⟩
end Go.Proofs.YtjfmjbmkkpkppaaGreatDoor
namespace Go.Proofs.YtjfmjbmkkpkppaaGreatDoor
open Go.Proofs.Tryz
open Go Go.Sl Go.Sl.BitM Go.Sl.SpM Go.Sl.RsM Go.Sl.ByM Go.Sl.UnM
set_option linter.unusedVariables false
set_option linter.unusedSimpArgs false
set_option maxHeartbeats 1000000
set_option maxRecDepth 8000
variable {W0 w : World} {L F : List HProp}
theorem unoticed_ok {bu c : Nat} {code : Int} {u : Un} {pool : PoolL} {ms : List Nat} {l : List Nat} {a : Option Addr} {rv : Value} {z0 z1 z2 z4 : Int} (hl8 : l.length ≤ 8) (hlt : ∀ j ∈ l, j < 8) (hsm : small 999000 u) (hr : rv = .agg #[.int .i64 z0, .int .i64 z1, .int .i64 z2, .slice none 0 0, .int .i64 z4]) (h : On W0 (UnP 108 151 154 bu pool ms u :: Own 2 (.slice a l.length c) l.length (notesV code l) :: L) w) : Calls Tryz.prog 85 #[.pointer (some ⟨bu, 0, none⟩), rv, .slice a l.length c] w (Ret fun v w' => v = rv ∧ On W0 (UnP 108 151 154 bu pool ms (notM u code l) :: L) w') := by
  refine enter func85 rfl ntmps85 rfl ?_
  subst hr
  have hul := On.unLen h
  obtain ⟨hl_, hwf⟩ := hul
  refine W.sr (WL.e (eff_box (v := .agg _) (l := [.int .i64 z0, .int .i64 z1, .int .i64 z2, .slice none 0 0, .int .i64 z4]) h rfl rfl) ?_)
  rintro _ w ⟨b4, rfl, h⟩
  refine WL.e (eff_alloc h zeroValue44 rfl) ?_
  rintro _ w ⟨b6, rfl, h⟩
  refine WL.nil (W.seq (W.sr (WL.m (WL.v (run_lenSlice underlying160 rfl) (WL.m (WL.nil ?_))))))
  refine W.block ?_
  refine W.loop (fun (k : Nat) env w => k ≤ l.length ∧ ∃ j, env = mkE j [(0, .pointer (some ⟨bu, 0, none⟩)), (4, .pointer (some ⟨b4, 0, none⟩)), (6, .pointer (some ⟨b6, 0, none⟩)), (9, .slice a l.length c), (10, .int .i64 (l.length : Int)), (11, .int .i64 (k : Int))] ∧ On W0 (UnP 108 151 154 bu pool ms (notM u code (l.take k)) :: Own 2 (.slice a l.length c) l.length (notesV code l) :: blk b6 [.int .i64 0, .int .i64 0, .int .i64 0, .slice none 0 0, .int .i64 0] 44 :: blk b4 [.int .i64 z0, .int .i64 z1, .int .i64 z2, .slice none 0 0, .int .i64 z4] 44 :: L) w) (fun k => l.length - k) (0) ?_ ?_
  · have h : On W0 (UnP 108 151 154 bu pool ms (notM u code (l.take 0)) :: _) w := h.fetch (UnP 108 151 154 bu pool ms u)
    exact ⟨Nat.zero_le _, _, mkE_of ⟨rfl, rfl, rfl, rfl, rfl, rfl, trivial⟩, h.to⟩
  rintro k env w ⟨hk, j, rfl, h⟩
  refine W.sr (WL.v (run_lss rfl rfl) (WL.nil (W.seq ?_)))
  refine W.condIf rfl (fun c5 => ?_) (fun c5 => ?_)
  ·
   refine W.skip (W.seq ?_)
   have hkl : k < l.length := by omega
   have ex_ : ∃ i, l[k]? = some i := ⟨l[k], by simp⟩
   obtain ⟨i, hq⟩ := ex_
   have hi8 : i < 8 := hlt i (List.mem_of_getElem? hq)
   have hrow := drop_flatMap (noteV code) 2 (noteV_length code) l _ _ hq
   have oa_ := Own.addr (h.own (.slice a l.length c)) (by omega)
   obtain ⟨bn, on, ha_⟩ := oa_
   subst ha_
   have hcl := notM_clen (code := code) hi8 (l.take k) (u := u) hl_
   have hcs := hsm i hi8
   have htl : (l.take k).length ≤ 8 := by rw [List.length_take]; omega
   refine W.block (W.sr (WL.v (run_indexAddr underlying160 sizeOf198 rfl rfl (by omega) (by omega)) (WL.v (run_loadN isAgg198 sizeOf198 rfl rfl ((h.cellsO (v := .slice (some ⟨bn, on, none⟩) l.length c)).elem (i := k) (vs := [.int .i64 (i : Int), .int .i64 code]) hkl hrow)) (WL.e (eff_alloc h zeroValue198 rfl) ?_))))
   rintro _ w ⟨b8, rfl, h⟩
   refine WL.e (eff_storeW (vs := [.int .i64 _, .int .i64 _]) h sizeOf198 rfl rfl rfl rfl rfl) ?_
   rintro _ w h
   refine WL.nil (W.region (WL.m (WL.f 0 underlying198 rfl sizeOf3 rfl rfl (WL.l isAgg3 rfl (h.cellB rfl) (WL.f 1 underlying198 rfl sizeOf3 rfl rfl (WL.l isAgg3 rfl (h.cellB rfl) (WL.e (eff_call call97 (tell_ok (i := i) (x := code) hi8 (by omega) (h.fetch (UnP 108 151 154 bu pool ms (notM u code (l.take k)))))) ?_)))))))
   rintro _ w h
   rw [notM_take hq] at h
   refine WL.nil (W.region (WL.v (run_incN rfl rfl (by omega)) (WL.m (WL.nil ?_))))
   exact ⟨k + 1, ⟨by omega, _, mkE_of ⟨rfl, rfl, rfl, rfl, rfl, rfl, trivial⟩, h.to⟩, by show l.length - (k + 1) < l.length - k; omega⟩
  refine W.exit (W.sr (WL.v (run_loadB (vs := [.int .i64 _, .int .i64 _, .int .i64 _, .slice _ _ _, .int .i64 _]) h isAgg44 sizeOf44 rfl rfl rfl) (WL.e (eff_storeW (vs := [.int .i64 _, .int .i64 _, .int .i64 _, .slice _ _ _, .int .i64 _]) h sizeOf44 rfl rfl rfl rfl rfl) ?_)))
  rintro _ w h
  refine WL.nil (W.ret (bodyQ.rcB (vs := [.int .i64 _, .int .i64 _, .int .i64 _, .slice _ _ _, .int .i64 _]) h results85 isAgg44 sizeOf44 rfl rfl rfl ?_))
  have ob_ : k = l.length := by omega
  obtain rfl := ob_
  rw [List.take_length] at h
  exact ⟨rfl, h.to⟩
theorem ukeys_ok {b : Nat} {t : Tb} (h : On W0 (blk b t.cells 154 :: L) w) : Calls Tryz.prog 93 #[.pointer (some ⟨b, 0, none⟩)] w (Ret fun v w' => ∃ a, v = .slice a (keysN t.K 8).length (keysN t.K 8).length ∧ On W0 (Own 1 (.slice a (keysN t.K 8).length (keysN t.K 8).length) (keysN t.K 8).length (kV (keysN t.K 8)) :: blk b t.cells 154 :: L) w') := by
  refine enter func93 rfl ntmps93 rfl ?_
  have hmx := maxLen_eq
  refine W.sr (WL.a (WL.nil (W.sr (WL.a (WL.nil ?_)))))
  refine W.seq (W.sr (WL.m (WL.n rfl (WL.f 0 underlying154 rfl sizeOf152 rfl rfl (WL.v (run_loadB (vs := [.int .u64 _, .int .u64 _, .int .u64 _, .int .u64 _, .int .u64 _, .int .u64 _, .int .u64 _, .int .u64 _]) h isAgg152 sizeOf152 rfl rfl rfl) (WL.m ?_))))))
  refine WL.nil (W.block ?_)
  refine W.loop (fun (i : Nat) env w => ∃ j a c, env = mkE j [(3, .slice a (keysN t.K i).length c), (9, .agg (keysV t.K).toArray), (10, .int .i64 (i : Int))] ∧ i ≤ 8 ∧ On W0 (Own 1 (.slice a (keysN t.K i).length c) (keysN t.K i).length (kV (keysN t.K i)) :: blk b t.cells 154 :: L) w) (fun i => 8 - i) (0) ?_ ?_
  · exact ⟨_, none, 0, mkE_of ⟨rfl, rfl, rfl, trivial⟩, Nat.zero_le _, h.ownEmpty 1 none⟩
  rintro i env w ⟨j, a, c, rfl, hi, h⟩
  have hkn := keysN_len t.K i
  refine W.sr (WL.v (run_lss rfl rfl) (WL.nil (W.seq ?_)))
  refine W.condIf rfl (fun c6 => ?_) (fun c6 => ?_)
  ·
   refine W.skip (W.seq (W.block (W.sr (WL.v (run_indexArr underlying152 sizeOf27 isAgg27 rfl rfl (by omega) (by omega) (keysV_key (i := i) (by omega))) (WL.a (WL.nil ?_))))))
   refine W.sr (WL.m (WL.v (run_neq rfl rfl) (WL.nil ?_)))
   refine W.condIf rfl (fun c12 => ?_) (fun c12 => ?_)
   ·
    refine W.region (WL.m (WL.m (WL.e (eff_mkSlice (zl := [.int .u64 0]) (out := [.int .u64 _]) h underlying169 sizeOf27 zeroValue27 (by decide) (by kernel_rfl) rfl rfl (by simp) (⟨⟨_, _, rfl, rfl, by decide⟩, trivial⟩) rfl rfl (by simp [maxLen])) ?_)))
    rintro _ w ⟨b17, rfl, h⟩
    refine WL.e (eff_app (c2 := 1) (bytes := 8) h rfl rfl (h.cellsO (v := .slice (some ⟨b17, 0, none⟩) 1 1)) underlying169 rfl rfl rfl rfl rfl (by omega) (by omega) (by simp [Value.oneCell'])) ?_
    rintro _ w ⟨a18, c18, rfl, h⟩
    have e1 : keysN t.K i ++ [t.K i] = keysN t.K (i + 1) := by
      show _ = keysN t.K i ++ if t.K i = 0 then [] else [t.K i]
      rw [if_neg (by omega)]
    have e2 : kV (keysN t.K i) ++ [Value.int .u64 (t.K i)] = kV (keysN t.K (i + 1)) := by rw [← e1, ← kV_app]; rfl
    have el : (keysN t.K i).length + 1 = (keysN t.K (i + 1)).length := by rw [← e1, List.length_append]; rfl
    have h : On W0 (Own 1 (.slice a18 ((keysN t.K i).length + 1) c18) ((keysN t.K i).length + 1) (kV (keysN t.K i) ++ [.int .u64 (t.K i)]) :: _) w := h
    rw [e2, el] at h
    refine WL.a (WL.nil (W.region (WL.v (run_incN rfl rfl (by omega)) (WL.m (WL.nil ?_)))))
    exact ⟨i + 1, ⟨_, a18, c18, mkE_of ⟨congrArg (fun q => Value.slice a18 q c18) el, rfl, rfl, trivial⟩, by omega, h.to⟩, by show 8 - (i + 1) < 8 - i; omega⟩
   refine W.skip (W.region (WL.v (run_incN rfl rfl (by omega)) (WL.m (WL.nil ?_))))
   have e1 : keysN t.K (i + 1) = keysN t.K i := by
     show keysN t.K i ++ (if t.K i = 0 then [] else [t.K i]) = _
     rw [if_pos (show t.K i = 0 by omega), List.append_nil]
   rw [← e1] at h
   exact ⟨i + 1, ⟨_, a, c, mkE_of ⟨congrArg (fun q : List Int => Value.slice a q.length c) e1.symm, rfl, rfl, trivial⟩, by omega, h.to⟩, by show 8 - (i + 1) < 8 - i; omega⟩
  refine W.exit (W.seq ?_)
  have ob_ : i = 8 := by omega
  obtain rfl := ob_
  refine W.region (WL.m (WL.e (eff_call call125 (clip_keys h)) ?_))
  rintro _ w ⟨rfl, h⟩
  refine WL.a (WL.nil (W.ret (bodyQ.r1 (v := .slice _ _ _) results93 rfl ?_)))
  exact ⟨a, rfl, h⟩
theorem pkeys_ok {g ck : Nat} {ak : Option Addr} {ks : List Int} (hg : g < 4294967296) (hk : ∀ x ∈ ks, 0 ≤ x ∧ x < 18446744073709551616) (hl : ks.length ≤ 8) (h : On W0 L w) (C : Gives L (Cells 1 (.slice ak ks.length ck) ks.length (kV ks))) : Calls Tryz.prog 91 #[.int .u32 (g : Int), .slice ak ks.length ck] w (Ret fun v w' => ∃ a, v = .slice a (keysP g (8 * ks.length) ks ks.length).length (keysP g (8 * ks.length) ks ks.length).length ∧ On W0 (OwnB (.slice a (keysP g (8 * ks.length) ks ks.length).length (keysP g (8 * ks.length) ks ks.length).length) (keysP g (8 * ks.length) ks ks.length) :: L) w') := by
  refine enter func91 rfl ntmps91 rfl ?_
  have hmx := maxLen_eq
  have hbd := (h.reads C).bounds
  obtain ⟨hc1, hc2⟩ := hbd
  have e0 : ([] ++ be g 4) ++ be (8 * ks.length) 4 = (keysP g (8 * ks.length) ks 0) := by rw [keysP_zero, List.nil_append]
  refine W.sr (WL.a (WL.nil (W.sr (WL.m (WL.m ?_)))))
  refine WL.v (run_lenSlice underlying169 rfl) (WL.v (run_minN (m := ks.length) (n := 16) rfl rfl (Nat.min_eq_left (by omega))) (WL.v (run_cutH underlying169 sizeOf27 rfl rfl  (by omega)) (WL.a (WL.nil (W.sr (WL.m ?_))))))
  refine WL.v (run_convIn underlying24 underlying27 rfl (by show (0 : Int) ≤ _; omega) (by show _ ≤ (18446744073709551615 : Int); omega)) (WL.e (eff_call call38 (bput_ok (ax := none) (cx := 0) (bs := []) (v := g) (n := 4) h Gives.nilB (by decide) (by decide) (by omega) (by decide))) ?_)
  rintro _ w ⟨a15, rfl, h⟩
  refine WL.m (WL.v (run_lenSlice underlying169 rfl) (WL.v (run_mulN (m := 8) (n := ks.length) rfl rfl (by omega)) (WL.v (run_convIn underlying3 underlying27 rfl (by show (0 : Int) ≤ _; omega) (by show _ ≤ (18446744073709551615 : Int); omega)) (WL.e (eff_call call38 (bput_ok (v := 8 * ks.length) (n := 4) h (Gives.ownO (v := .slice a15 ([] ++ be g 4).length ([] ++ be g 4).length)) (by decide) (by decide) (by omega) (by rw [List.nil_append, be_length]; decide))) ?_))))
  rintro v20 w ⟨a20, hv20, h⟩
  rw [e0] at hv20 h
  subst hv20
  refine WL.a (WL.nil (W.seq (W.sr (WL.m (WL.v (run_lenSlice underlying169 rfl) (WL.m ?_))))))
  refine WL.nil (W.block ?_)
  refine W.loop (fun (k : Nat) env w => k ≤ ks.length ∧ ∃ (j : Env) (ao : Option Addr) (co : Nat), env = mkE j [(5, .slice ao (keysP g (8 * ks.length) ks k).length co), (21, .slice ak ks.length ck), (22, .int .i64 (ks.length : Int)), (23, .int .i64 (k : Int))] ∧ co = (keysP g (8 * ks.length) ks k).length ∧ On W0 (OwnB (.slice ao (keysP g (8 * ks.length) ks k).length co) (keysP g (8 * ks.length) ks k) :: L) w) (fun k => ks.length - k) (0) ?_ ?_
  · exact ⟨Nat.zero_le _, _, a20, _, mkE_of ⟨rfl, rfl, rfl, rfl, trivial⟩, rfl, h.to⟩
  rintro k env w ⟨hk8, j, ao, co, rfl, hco, h⟩
  have hlk := keysP_len (g := g) (n := 8 * ks.length) hk8
  refine W.sr (WL.v (run_lss rfl rfl) (WL.nil (W.seq ?_)))
  refine W.condIf rfl (fun c7 => ?_) (fun c7 => ?_)
  ·
   refine W.skip (W.seq ?_)
   have hkl : k < ks.length := by omega
   have ex_ : ∃ x, ks[k]? = some x := ⟨ks[k], by simp⟩
   obtain ⟨x, hx⟩ := ex_
   have hxk := hk x (List.mem_of_getElem? hx)
   have ekx : x = ((x.toNat : Nat) : Int) := by omega
   have adx := (h.readsTo C).addr (by omega)
   obtain ⟨bx, ox, hax⟩ := adx
   subst hax
   refine W.block (W.sr (WL.v (run_indexAddr underlying169 sizeOf27 rfl rfl (by omega) (by omega)) (WL.l isAgg27 rfl ((h.readsTo C).elem (i := k) (vs := [.int .u64 ((x.toNat : Nat) : Int)]) hkl ((kV_get hx).trans (congrArg (fun q => [Value.int .u64 q]) ekx)) 0 _ rfl) (WL.a (WL.nil (W.region ?_))))))
   refine WL.m (WL.m (WL.e (eff_call call38 (bput_ok (v := x.toNat) (n := 8) (bs := (keysP g (8 * ks.length) ks k)) h (Gives.ownO (v := .slice ao (keysP g (8 * ks.length) ks k).length co)) (by decide) (by decide) (by omega) (by omega))) ?_))
   rintro _ w ⟨a29, rfl, h⟩
   refine WL.a (WL.nil (W.region (WL.v (run_incN rfl rfl (by omega)) (WL.m (WL.nil ?_)))))
   rw [keysP_succ hx] at h
   exact ⟨k + 1, ⟨by omega, _, a29, _, mkE_of ⟨congrArg (fun q : List UInt8 => Value.slice a29 q.length q.length) (keysP_succ hx), rfl, rfl, rfl, trivial⟩, rfl, h.to⟩, by show ks.length - (k + 1) < ks.length - k; omega⟩
  refine W.exit (W.sr (WL.m (WL.a (WL.nil (W.ret (bodyQ.r1 (v := .slice _ _ _) results91 rfl ?_))))))
  have ob_ : k = ks.length := by omega
  obtain rfl := ob_
  subst hco
  exact ⟨ao, rfl, h⟩
def holdP (g key y : Nat) : List UInt8 := if y = 0 then be g 4 ++ be 0 4 else be g 4 ++ be 16 4 ++ be key 8 ++ be 0 4 ++ be y 2 ++ be 0 2
theorem and15 {y : Nat} (h : y < 16) : ((y &&& 15 : Nat) : Int) = (y : Int) := by
  have : y &&& 15 = y % 2 ^ 4 := Nat.and_two_pow_sub_one_eq_mod y 4
  rw [this, Nat.mod_eq_of_lt (by omega)]
theorem holdB_P {t : Tb} (h1 : 0 ≤ t.typ) : holdB t = holdP t.gen.toNat (holdK t).toNat t.typ.toNat := by
  unfold holdB holdP
  by_cases h : t.typ = 0
  · rw [if_pos h, if_pos (by omega)]
  · rw [if_neg h, if_neg (by omega)]
theorem pholder_ok {g key y : Nat} (hg : g < 4294967296) (hk : key < 18446744073709551616) (hy : y < 16) (h : On W0 L w) : Calls Tryz.prog 95 #[.int .u32 (g : Int), .int .u64 (key : Int), .int .i64 (y : Int)] w (Ret fun v w' => ∃ a, v = .slice a (holdP g key y).length (holdP g key y).length ∧ On W0 (OwnB (.slice a (holdP g key y).length (holdP g key y).length) (holdP g key y) :: L) w') := by
  refine enter func95 rfl ntmps95 rfl ?_
  have hmx := maxLen_eq
  refine W.sr (WL.a (WL.nil (W.sr (WL.m (WL.v (run_convIn underlying24 underlying27 rfl (by show (0 : Int) ≤ _; omega) (by show _ ≤ (18446744073709551615 : Int); omega)) ?_)))))
  refine WL.e (eff_call call38 (bput_ok (ax := none) (cx := 0) (bs := []) (v := g) (n := 4) h Gives.nilB (by decide) (by decide) (by omega) (by decide))) ?_
  rintro _ w ⟨a10, rfl, h⟩
  refine WL.a (WL.nil (W.seq (W.sr (WL.m (WL.v (run_andV (m := y) (n := 15) (and15 hy) rfl rfl (by show _ ≤ (9223372036854775807 : Int); omega) (by decide)) (WL.v (run_eql rfl rfl) ?_))))))
  refine WL.nil ?_
  refine W.condIf rfl (fun c3 => ?_) (fun c3 => ?_)
  ·
   refine W.sr (WL.m (WL.e (eff_call call38 (bput_ok (v := 0) (n := 4) (bs := [] ++ be g 4) h (Gives.ownO (v := .slice a10 ([] ++ be g 4).length ([] ++ be g 4).length)) (by decide) (by decide) (by omega) (by simp only [List.length_append, List.length_nil, be_length]; omega))) ?_))
   rintro _ w ⟨a15, rfl, h⟩
   refine WL.a (WL.nil (W.ret (bodyQ.r1 (v := .slice _ _ _) results95 rfl ?_)))
   have e : holdP g key y = [] ++ be g 4 ++ be 0 4 := by unfold holdP; rw [if_pos (by omega), List.nil_append]
   rw [e]
   exact ⟨a15, rfl, h.to⟩
  refine W.skip (W.sr (WL.m (WL.e (eff_call call38 (bput_ok (v := 16) (n := 4) (bs := [] ++ be g 4) h (Gives.ownO (v := .slice a10 ([] ++ be g 4).length ([] ++ be g 4).length)) (by decide) (by decide) (by omega) (by simp only [List.length_append, List.length_nil, be_length]; omega))) ?_)))
  rintro _ w ⟨a17, rfl, h⟩
  refine WL.m (WL.e (eff_call call38 (bput_ok (v := key) (n := 8) (bs := [] ++ be g 4 ++ be 16 4) h (Gives.ownO (v := .slice a17 ([] ++ be g 4 ++ be 16 4).length ([] ++ be g 4 ++ be 16 4).length)) (by decide) (by decide) (by omega) (by simp only [List.length_append, List.length_nil, be_length]; omega))) ?_)
  rintro _ w ⟨a19, rfl, h⟩
  refine WL.e (eff_call call38 (bput_ok (v := 0) (n := 4) (bs := [] ++ be g 4 ++ be 16 4 ++ be key 8) h (Gives.ownO (v := .slice a19 ([] ++ be g 4 ++ be 16 4 ++ be key 8).length ([] ++ be g 4 ++ be 16 4 ++ be key 8).length)) (by decide) (by decide) (by omega) (by simp only [List.length_append, List.length_nil, be_length]; omega))) ?_
  rintro _ w ⟨a20, rfl, h⟩
  refine WL.a (WL.nil (W.sr (WL.m (WL.m (WL.v (run_andV (m := y) (n := 15) (and15 hy) rfl rfl (by show _ ≤ (9223372036854775807 : Int); omega) (by decide)) (WL.v (run_convIn underlying3 underlying27 rfl (by show (0 : Int) ≤ _; omega) (by show _ ≤ (18446744073709551615 : Int); omega)) ?_))))))
  refine WL.e (eff_call call38 (bput_ok (v := y) (n := 2) (bs := [] ++ be g 4 ++ be 16 4 ++ be key 8 ++ be 0 4) h (Gives.ownO (v := .slice a20 ([] ++ be g 4 ++ be 16 4 ++ be key 8 ++ be 0 4).length ([] ++ be g 4 ++ be 16 4 ++ be key 8 ++ be 0 4).length)) (by decide) (by decide) (by omega) (by simp only [List.length_append, List.length_nil, be_length]; omega))) ?_
  rintro _ w ⟨a25, rfl, h⟩
  refine WL.e (eff_call call38 (bput_ok (v := 0) (n := 2) (bs := [] ++ be g 4 ++ be 16 4 ++ be key 8 ++ be 0 4 ++ be y 2) h (Gives.ownO (v := .slice a25 ([] ++ be g 4 ++ be 16 4 ++ be key 8 ++ be 0 4 ++ be y 2).length ([] ++ be g 4 ++ be 16 4 ++ be key 8 ++ be 0 4 ++ be y 2).length)) (by decide) (by decide) (by omega) (by simp only [List.length_append, List.length_nil, be_length]; omega))) ?_
  rintro _ w ⟨a26, rfl, h⟩
  refine WL.a (WL.nil (W.ret (bodyQ.r1 (v := .slice _ _ _) results95 rfl ?_)))
  have e : holdP g key y = [] ++ be g 4 ++ be 16 4 ++ be key 8 ++ be 0 4 ++ be y 2 ++ be 0 2 := by unfold holdP; rw [if_neg (by omega), List.nil_append]
  rw [e]
  exact ⟨a26, rfl, h.to⟩
end Go.Proofs.YtjfmjbmkkpkppaaGreatDoor
namespace Go.Proofs.YtjfmjbmkkpkppaaGreatDoor
open Go.Proofs.Tryz
open Go Go.Sl Go.Sl.BitM Go.Sl.SpM Go.Sl.RsM Go.Sl.ByM Go.Sl.UnM
set_option linter.unusedVariables false
set_option linter.unusedSimpArgs false
set_option maxHeartbeats 1000000
set_option maxRecDepth 8000
variable {W0 w : World} {L F : List HProp}
theorem ukey_ok {b : Nat} {t : Tb} {hh : Int} (h : On W0 (blk b t.cells 154 :: L) w) : Calls Tryz.prog 96 #[.pointer (some ⟨b, 0, none⟩), .int .i64 hh] w (Ret fun v w' => v = .int .u64 (if hostB hh = true then t.K hh.toNat else 0) ∧ On W0 (blk b t.cells 154 :: L) w') := by
  refine enter func96 rfl ntmps96 rfl (W.sr (WL.a (WL.nil (W.seq (W.sr ?_)))))
  refine WL.m (WL.e (eff_call call80 (host_ok h)) ?_)
  rintro _ w ⟨hv, h⟩
  have hcs := Bool.eq_false_or_eq_true (hostB hh)
  rcases hcs with hb | hb <;> (rw [hb] at hv; subst hv)
  ·
   refine WL.v (run_not rfl) (WL.nil (W.condF rfl (W.skip (W.seq ?_))))
   have ob_ := hostB_iff.1 hb
   obtain ⟨hi0, hi8⟩ := ob_
   have ob_ := Int.eq_ofNat_of_zero_le hi0
   obtain ⟨i, rfl⟩ := ob_
   have hi : i < 8 := by omega
   refine W.region (WL.m (WL.m (WL.n rfl (WL.f 0 underlying154 rfl sizeOf152 rfl rfl (WL.v (run_indexAddrArr underlying152 sizeOf27 rfl rfl (by omega) (by omega)) (WL.l isAgg27 rfl (h.cellB (cells_at hi)) (WL.a ?_)))))))
   refine WL.nil (W.ret (bodyQ.r1 (v := .int .u64 _) results96 rfl ?_))
   exact ⟨by rw [if_pos hb]; rfl, h⟩
  refine WL.v (run_not rfl) (WL.nil (W.condT rfl (W.sr (WL.a (WL.nil (W.ret ?_))))))
  refine bodyQ.r1 (v := .int .u64 _) results96 rfl ?_
  exact ⟨by rw [hb]; rfl, h⟩
theorem uact_ok {bu i : Nat} {u : Un} {pool : PoolL} {ms : List Nat} {kind at_ n key new typ : Int} {force : Bool} {data : List UInt8} {ax : Option Addr} {cx : Nat} (hi : i < 8) (hk1 : 1 ≤ kind) (hk : kind ≤ 18) (hk9 : kind ≠ 9) (hsm : small 999000 u) (hgu_ : goodU u) (hcm : okCm (⟨kind, at_, n, data, key, new, typ, force⟩ : Cm)) (h : On W0 (UnP 108 151 154 bu pool ms u :: L) w) (C : Gives L (Bytes (.slice ax data.length cx) data)) (hd : data.length ≤ 1000000) : Calls Tryz.prog 60 #[.pointer (some ⟨bu, 0, none⟩), .int .i64 (i : Int), (⟨kind, at_, n, data, key, new, typ, force⟩ : Cm).val (.slice ax data.length cx)] w (Ret fun v w' => ∃ u' r dv, actM u i (⟨kind, at_, n, data, key, new, typ, force⟩ : Cm) = (u', r) ∧ v = r.val dv ∧ On W0 (OwnB dv r.data :: UnP 108 151 154 bu pool ms u' :: L) w') := by
  refine enter func60 rfl ntmps60 rfl ?_
  have hul := On.unLen h
  obtain ⟨hl8, hwf⟩ := hul
  have hgt := hgu_.1
  have hgok := hgt.1
  have egen : u.t.gen = ((u.t.gen.toNat : Nat) : Int) := by have := hgok.2; omega
  have hsm1 := small_le hsm (show 999000 ≤ 1000000 by decide)
  refine W.sr (WL.e (eff_box (v := .agg _) (l := (⟨kind, at_, n, data, key, new, typ, force⟩ : Cm).cells (.slice ax data.length cx)) h rfl rfl) ?_)
  rintro _ w ⟨b5, rfl, h⟩
  have h : On W0 (blk b5 [.int .i64 kind, .int .i64 at_, .int .i64 n, .slice ax data.length cx, .int .u64 key, .int .u64 new, .int .i64 typ, .bool force] 29 :: _) w := h
  refine WL.e (eff_alloc h zeroValue44 rfl) ?_
  rintro _ w ⟨b6, rfl, h⟩
  refine WL.nil (W.seq (W.sr (WL.f 0 underlying29 rfl sizeOf3 rfl rfl (WL.l isAgg3 rfl (h.cellB rfl) (WL.nil (W.block ?_))))))
  refine W.seq (W.block (W.seq (W.block (W.seq (W.block (W.seq (W.block ?_)))))))
  refine W.seq (W.block (W.seq (W.block (W.seq (W.block (W.block (W.seq ?_)))))))
  refine W.block (W.seq (W.block (W.seq (W.block (W.seq (W.block (W.seq ?_)))))))
  refine W.seq (W.sr (WL.v (run_eql rfl rfl) (WL.a (WL.nil ?_))))
  refine W.condIf rfl (fun c16 => ?_) (fun c16 => ?_)
  ·
   refine W.exit (W.seq (W.sr (WL.v (run_buildS (pl := [(0, 1), (1, 1), (2, 1), (3, 1), (4, 1)]) (out := [.int .i64 _, .int .i64 _, .int .i64 _, .slice _ _ _, .int .i64 _]) underlying44 zeroValue44 (fun w => by kernel_rfl) rfl (trivial) rfl) (WL.e (eff_storeW (vs := [.int .i64 _, .int .i64 _, .int .i64 _, .slice _ _ _, .int .i64 _]) h sizeOf44 rfl rfl rfl rfl rfl) ?_))))
   rintro _ w h
   refine WL.nil (W.ret (bodyQ.rcB (vs := [.int .i64 _, .int .i64 _, .int .i64 _, .slice _ _ _, .int .i64 _]) h results60 isAgg44 sizeOf44 rfl rfl rfl ?_))
   have h : On W0 (OwnB (.slice none 0 0) (plain 0 0 0 : Rp).data :: _) w := h.ownEmpty 1 none
   exact ⟨u, plain 0 0 0, .slice none 0 0, (by unfold actM; rw [if_pos c16]), rfl, h.to⟩
  refine W.skip (W.seq (W.sr (WL.v (run_eql rfl rfl) (WL.a (WL.nil ?_)))))
  refine W.condIf rfl (fun c20 => ?_) (fun c20 => ?_)
  ·
   refine W.exit (W.seq (W.sr (WL.e (eff_call call81 (inquiry_ok h)) ?_)))
   rintro _ w ⟨a41, rfl, h⟩
   refine WL.e (eff_call call58 (sgood_ok (bs := inqB) h (Gives.ownO (v := .slice a41 inqB.length inqB.length)) (by decide))) ?_
   rintro _ w ⟨a42, rfl, h⟩
   refine WL.e (eff_storeW (vs := [.int .i64 _, .int .i64 _, .int .i64 _, .slice _ _ _, .int .i64 _]) h sizeOf44 rfl rfl rfl rfl rfl) ?_
   rintro _ w h
   refine WL.nil (W.ret (bodyQ.rcB (vs := [.int .i64 _, .int .i64 _, .int .i64 _, .slice _ _ _, .int .i64 _]) h results60 isAgg44 sizeOf44 rfl rfl rfl ?_))
   have h : On W0 (OwnB (.slice a42 (inqB).length (inqB).length) (gave (inqB)).data :: _) w := h.fetch (OwnB (.slice a42 (inqB).length (inqB).length) (inqB))
   exact ⟨u, gave (inqB), .slice a42 (inqB).length (inqB).length, (by unfold actM; rw [if_neg c16, if_pos c20]), rfl, h.to⟩
  refine W.skip (W.seq (W.sr (WL.v (run_eql rfl rfl) (WL.a (WL.nil ?_)))))
  refine W.condIf rfl (fun c24 => ?_) (fun c24 => ?_)
  ·
   refine W.exit (W.seq (W.sr (WL.m (WL.e (eff_call call83 (ublocks_ok (h.fetch (UnP 108 151 154 bu pool ms u)))) ?_))))
   rintro _ w ⟨rfl, h⟩
   refine WL.e (eff_call call82 (capacity_ok (n := u.s.N) hwf.2.1 hwf.2.2.1 h)) ?_
   rintro _ w ⟨a45, rfl, h⟩
   refine WL.e (eff_call call58 (sgood_ok (bs := capB u.s.N) h (Gives.ownO (v := .slice a45 (capB u.s.N).length (capB u.s.N).length)) (by unfold capB; rw [List.length_append, be_length, be_length]; decide))) ?_
   rintro _ w ⟨a46, rfl, h⟩
   refine WL.e (eff_storeW (vs := [.int .i64 _, .int .i64 _, .int .i64 _, .slice _ _ _, .int .i64 _]) h sizeOf44 rfl rfl rfl rfl rfl) ?_
   rintro _ w h
   refine WL.nil (W.ret (bodyQ.rcB (vs := [.int .i64 _, .int .i64 _, .int .i64 _, .slice _ _ _, .int .i64 _]) h results60 isAgg44 sizeOf44 rfl rfl rfl ?_))
   have h : On W0 (OwnB (.slice a46 ((capB u.s.N)).length ((capB u.s.N)).length) (gave ((capB u.s.N))).data :: _) w := h.fetch (OwnB (.slice a46 ((capB u.s.N)).length ((capB u.s.N)).length) ((capB u.s.N)))
   exact ⟨u, gave ((capB u.s.N)), .slice a46 ((capB u.s.N)).length ((capB u.s.N)).length, (by unfold actM; rw [if_neg c16, if_neg c20, if_pos c24]), rfl, h.to⟩
  refine W.skip (W.seq (W.seq (W.sr (WL.v (run_eql rfl rfl) (WL.a (WL.nil ?_))))))
  refine W.condIf rfl (fun c28 => ?_) (fun c28 => ?_)
  ·
   refine W.skip ?_
   refine W.condIf rfl (fun c40 => ?_) (fun c40 => ?_)
   ·
    refine W.exit (W.seq (W.sr (WL.m (WL.v (run_loadB (vs := [.int .i64 _, .int .i64 _, .int .i64 _, .slice _ _ _, .int .u64 _, .int .u64 _, .int .i64 _, .bool _]) h isAgg29 sizeOf29 rfl rfl rfl) (WL.e (eff_call call84 (urun_ok (u := u) (h.fetch (UnP 108 151 154 bu pool ms u)) (Gives.to C) hd)) ?_)))))
    rintro _ w ⟨s', r', dv', heq, rfl, h⟩
    have of_ := Own.form h
    obtain ⟨ad, cd, hdv, _⟩ := of_
    subst hdv
    refine WL.e (eff_storeW (vs := [.int .i64 _, .int .i64 _, .int .i64 _, .slice _ _ _, .int .i64 _]) h sizeOf44 rfl rfl rfl rfl rfl) ?_
    rintro _ w h
    refine WL.nil (W.ret (bodyQ.rcB (vs := [.int .i64 _, .int .i64 _, .int .i64 _, .slice _ _ _, .int .i64 _]) h results60 isAgg44 sizeOf44 rfl rfl rfl ?_))
    have he : actM u i (⟨kind, at_, n, data, key, new, typ, force⟩ : Cm) = (u.setS s', r') := by rw [actM_run (by show 2 ≤ kind; omega) (by show kind ≤ 6; omega), heq]
    exact ⟨u.setS s', r', _, he, rfl, h.to⟩
   exact absurd c40 (not_not_intro (by omega))
  refine W.sr (WL.v (run_eql rfl rfl) (WL.a (WL.nil ?_)))
  refine W.condIf rfl (fun c31 => ?_) (fun c31 => ?_)
  ·
   refine W.skip ?_
   refine W.condIf rfl (fun c40 => ?_) (fun c40 => ?_)
   ·
    refine W.exit (W.seq (W.sr (WL.m (WL.v (run_loadB (vs := [.int .i64 _, .int .i64 _, .int .i64 _, .slice _ _ _, .int .u64 _, .int .u64 _, .int .i64 _, .bool _]) h isAgg29 sizeOf29 rfl rfl rfl) (WL.e (eff_call call84 (urun_ok (u := u) (h.fetch (UnP 108 151 154 bu pool ms u)) (Gives.to C) hd)) ?_)))))
    rintro _ w ⟨s', r', dv', heq, rfl, h⟩
    have of_ := Own.form h
    obtain ⟨ad, cd, hdv, _⟩ := of_
    subst hdv
    refine WL.e (eff_storeW (vs := [.int .i64 _, .int .i64 _, .int .i64 _, .slice _ _ _, .int .i64 _]) h sizeOf44 rfl rfl rfl rfl rfl) ?_
    rintro _ w h
    refine WL.nil (W.ret (bodyQ.rcB (vs := [.int .i64 _, .int .i64 _, .int .i64 _, .slice _ _ _, .int .i64 _]) h results60 isAgg44 sizeOf44 rfl rfl rfl ?_))
    have he : actM u i (⟨kind, at_, n, data, key, new, typ, force⟩ : Cm) = (u.setS s', r') := by rw [actM_run (by show 2 ≤ kind; omega) (by show kind ≤ 6; omega), heq]
    exact ⟨u.setS s', r', _, he, rfl, h.to⟩
   exact absurd c40 (not_not_intro (by omega))
  refine W.sr (WL.v (run_eql rfl rfl) (WL.a (WL.nil ?_)))
  refine W.condIf rfl (fun c34 => ?_) (fun c34 => ?_)
  ·
   refine W.skip ?_
   refine W.condIf rfl (fun c40 => ?_) (fun c40 => ?_)
   ·
    refine W.exit (W.seq (W.sr (WL.m (WL.v (run_loadB (vs := [.int .i64 _, .int .i64 _, .int .i64 _, .slice _ _ _, .int .u64 _, .int .u64 _, .int .i64 _, .bool _]) h isAgg29 sizeOf29 rfl rfl rfl) (WL.e (eff_call call84 (urun_ok (u := u) (h.fetch (UnP 108 151 154 bu pool ms u)) (Gives.to C) hd)) ?_)))))
    rintro _ w ⟨s', r', dv', heq, rfl, h⟩
    have of_ := Own.form h
    obtain ⟨ad, cd, hdv, _⟩ := of_
    subst hdv
    refine WL.e (eff_storeW (vs := [.int .i64 _, .int .i64 _, .int .i64 _, .slice _ _ _, .int .i64 _]) h sizeOf44 rfl rfl rfl rfl rfl) ?_
    rintro _ w h
    refine WL.nil (W.ret (bodyQ.rcB (vs := [.int .i64 _, .int .i64 _, .int .i64 _, .slice _ _ _, .int .i64 _]) h results60 isAgg44 sizeOf44 rfl rfl rfl ?_))
    have he : actM u i (⟨kind, at_, n, data, key, new, typ, force⟩ : Cm) = (u.setS s', r') := by rw [actM_run (by show 2 ≤ kind; omega) (by show kind ≤ 6; omega), heq]
    exact ⟨u.setS s', r', _, he, rfl, h.to⟩
   exact absurd c40 (not_not_intro (by omega))
  refine W.sr (WL.v (run_eql rfl rfl) (WL.a (WL.nil ?_)))
  refine W.condIf rfl (fun c37 => ?_) (fun c37 => ?_)
  ·
   refine W.skip ?_
   refine W.condIf rfl (fun c40 => ?_) (fun c40 => ?_)
   ·
    refine W.exit (W.seq (W.sr (WL.m (WL.v (run_loadB (vs := [.int .i64 _, .int .i64 _, .int .i64 _, .slice _ _ _, .int .u64 _, .int .u64 _, .int .i64 _, .bool _]) h isAgg29 sizeOf29 rfl rfl rfl) (WL.e (eff_call call84 (urun_ok (u := u) (h.fetch (UnP 108 151 154 bu pool ms u)) (Gives.to C) hd)) ?_)))))
    rintro _ w ⟨s', r', dv', heq, rfl, h⟩
    have of_ := Own.form h
    obtain ⟨ad, cd, hdv, _⟩ := of_
    subst hdv
    refine WL.e (eff_storeW (vs := [.int .i64 _, .int .i64 _, .int .i64 _, .slice _ _ _, .int .i64 _]) h sizeOf44 rfl rfl rfl rfl rfl) ?_
    rintro _ w h
    refine WL.nil (W.ret (bodyQ.rcB (vs := [.int .i64 _, .int .i64 _, .int .i64 _, .slice _ _ _, .int .i64 _]) h results60 isAgg44 sizeOf44 rfl rfl rfl ?_))
    have he : actM u i (⟨kind, at_, n, data, key, new, typ, force⟩ : Cm) = (u.setS s', r') := by rw [actM_run (by show 2 ≤ kind; omega) (by show kind ≤ 6; omega), heq]
    exact ⟨u.setS s', r', _, he, rfl, h.to⟩
   exact absurd c40 (not_not_intro (by omega))
  refine W.region (WL.v (run_eql rfl rfl) (WL.a (WL.nil ?_)))
  refine W.condIf rfl (fun c40 => ?_) (fun c40 => ?_)
  ·
   refine W.exit (W.seq (W.sr (WL.m (WL.v (run_loadB (vs := [.int .i64 _, .int .i64 _, .int .i64 _, .slice _ _ _, .int .u64 _, .int .u64 _, .int .i64 _, .bool _]) h isAgg29 sizeOf29 rfl rfl rfl) (WL.e (eff_call call84 (urun_ok (u := u) (h.fetch (UnP 108 151 154 bu pool ms u)) (Gives.to C) hd)) ?_)))))
   rintro _ w ⟨s', r', dv', heq, rfl, h⟩
   have of_ := Own.form h
   obtain ⟨ad, cd, hdv, _⟩ := of_
   subst hdv
   refine WL.e (eff_storeW (vs := [.int .i64 _, .int .i64 _, .int .i64 _, .slice _ _ _, .int .i64 _]) h sizeOf44 rfl rfl rfl rfl rfl) ?_
   rintro _ w h
   refine WL.nil (W.ret (bodyQ.rcB (vs := [.int .i64 _, .int .i64 _, .int .i64 _, .slice _ _ _, .int .i64 _]) h results60 isAgg44 sizeOf44 rfl rfl rfl ?_))
   have he : actM u i (⟨kind, at_, n, data, key, new, typ, force⟩ : Cm) = (u.setS s', r') := by rw [actM_run (by show 2 ≤ kind; omega) (by show kind ≤ 6; omega), heq]
   exact ⟨u.setS s', r', _, he, rfl, h.to⟩
  refine W.skip (W.seq (W.sr (WL.v (run_eql rfl rfl) (WL.a (WL.nil ?_)))))
  refine W.condIf rfl (fun c44 => ?_) (fun c44 => ?_)
  ·
   refine W.exit (W.seq (W.seq ?_))
   have ob_ := openU (h.fetch (UnP 108 151 154 bu pool ms u))
   obtain ⟨bs, bt, gs, hm, hl, h⟩ := ob_
   refine W.draw Tryz.follows h (fun w h => ?_)
   refine WT.m 0 rfl (WT.m 1 rfl (WT.n 2 rfl rfl (WT.f 3 1 rfl underlying108 rfl sizeOf100 rfl rfl (WT.l 4 rfl isAgg100 rfl (h.cellB rfl) (WT.m 5 rfl (WT.f 6 4 rfl underlying29 rfl sizeOf27 rfl rfl (WT.l 7 rfl isAgg27 rfl (h.cellB rfl) ?_)))))))
   refine WT.f 8 5 rfl underlying29 rfl sizeOf27 rfl rfl (WT.l 9 rfl isAgg27 rfl (h.cellB rfl) (WT.f 10 0 rfl underlying29 rfl sizeOf3 rfl rfl (WT.l 11 rfl isAgg3 rfl (h.cellB rfl) (WT.p 12 rfl (fun w' => (run_eql rfl rfl)) (WT.e 13 [false, false, false, false] rfl (eff_call call86 (uregister_ok (key := key) (fresh := new) (ign := decide (kind = 11)) (i := i) (t := u.t) hi (h.fetch (blk bt u.t.cells 154)))) ?_)))))
   rintro v63 w ⟨a63, c63, hv63, h⟩
   have hX := rvM_reg (t := u.t) (i := i) (c := (⟨kind, at_, n, data, key, new, typ, force⟩ : Cm)) (show kind = 10 ∨ kind = 11 by omega)
   rw [← hX] at hv63 h
   subst hv63
   have h := closeU (bu := bu) (u := u.setT (rvM u.t i (⟨kind, at_, n, data, key, new, typ, force⟩ : Cm)).t) hm hl ((((h.fetch (Big (GOwn pool) gs)).fetch (blk bt (rvM u.t i (⟨kind, at_, n, data, key, new, typ, force⟩ : Cm)).t.cells 154)).fetch (SpP 151 bs u.s)).fetch (blk bu (ucells bs bt gs) 108))
   refine ⟨trivial, ?_⟩
   refine WT.p 14 rfl (fun w' => (run_extract rfl rfl)) (WT.p 15 rfl (fun w' => (run_extract rfl rfl)) ?_)
   refine WT.e 16 [] rfl (eff_call call85 (unoticed_ok (bu := bu) (u := u.setT (rvM u.t i (⟨kind, at_, n, data, key, new, typ, force⟩ : Cm)).t) (l := (rvM u.t i (⟨kind, at_, n, data, key, new, typ, force⟩ : Cm)).l) (code := (rvM u.t i (⟨kind, at_, n, data, key, new, typ, force⟩ : Cm)).code) (a := a63) (c := c63) (rv := (rvM u.t i (⟨kind, at_, n, data, key, new, typ, force⟩ : Cm)).r.val (.slice none 0 0)) (z0 := (rvM u.t i (⟨kind, at_, n, data, key, new, typ, force⟩ : Cm)).r.st) (z1 := (rvM u.t i (⟨kind, at_, n, data, key, new, typ, force⟩ : Cm)).r.key) (z2 := (rvM u.t i (⟨kind, at_, n, data, key, new, typ, force⟩ : Cm)).r.code) (z4 := (rvM u.t i (⟨kind, at_, n, data, key, new, typ, force⟩ : Cm)).r.info) rvM_l.2.2.2 rvM_l.2.1 hsm rfl ((h.fetch (Own 2 (.slice a63 (rvM u.t i (⟨kind, at_, n, data, key, new, typ, force⟩ : Cm)).l.length c63) (rvM u.t i (⟨kind, at_, n, data, key, new, typ, force⟩ : Cm)).l.length (notesV (rvM u.t i (⟨kind, at_, n, data, key, new, typ, force⟩ : Cm)).code (rvM u.t i (⟨kind, at_, n, data, key, new, typ, force⟩ : Cm)).l))).fetch (UnP 108 151 154 bu pool ms (u.setT (rvM u.t i (⟨kind, at_, n, data, key, new, typ, force⟩ : Cm)).t))))) ?_
   rintro _ w ⟨rfl, h⟩
   refine ⟨trivial, ?_⟩
   refine WT.e 17 [] rfl (eff_storeW (vs := [.int .i64 _, .int .i64 _, .int .i64 _, .slice _ _ _, .int .i64 _]) h sizeOf44 rfl rfl rfl rfl rfl) ?_
   rintro _ w h
   refine ⟨trivial, ?_⟩
   refine WT.dn (W.ret (bodyQ.rcB (vs := [.int .i64 _, .int .i64 _, .int .i64 _, .slice _ _ _, .int .i64 _]) h results60 isAgg44 sizeOf44 rfl rfl rfl ?_))
   have he := actM_rv (u := u) (i := i) (c := (⟨kind, at_, n, data, key, new, typ, force⟩ : Cm)) (by show 10 ≤ kind; omega) (by show kind ≤ 15; omega)
   have h := On.nilData (r := (rvM u.t i (⟨kind, at_, n, data, key, new, typ, force⟩ : Cm)).r) rvM_r h
   exact ⟨_, _, .slice none 0 0, he, rfl, h.to⟩
  refine W.skip (W.seq (W.sr (WL.v (run_eql rfl rfl) (WL.a (WL.nil ?_)))))
  refine W.condIf rfl (fun c48 => ?_) (fun c48 => ?_)
  ·
   refine W.exit (W.seq (W.seq ?_))
   have ob_ := openU (h.fetch (UnP 108 151 154 bu pool ms u))
   obtain ⟨bs, bt, gs, hm, hl, h⟩ := ob_
   refine W.draw Tryz.follows h (fun w h => ?_)
   refine WT.m 0 rfl (WT.m 1 rfl (WT.n 2 rfl rfl (WT.f 3 1 rfl underlying108 rfl sizeOf100 rfl rfl (WT.l 4 rfl isAgg100 rfl (h.cellB rfl) (WT.m 5 rfl (WT.f 6 4 rfl underlying29 rfl sizeOf27 rfl rfl (WT.l 7 rfl isAgg27 rfl (h.cellB rfl) ?_)))))))
   refine WT.f 8 5 rfl underlying29 rfl sizeOf27 rfl rfl (WT.l 9 rfl isAgg27 rfl (h.cellB rfl) (WT.f 10 0 rfl underlying29 rfl sizeOf3 rfl rfl (WT.l 11 rfl isAgg3 rfl (h.cellB rfl) (WT.p 12 rfl (fun w' => (run_eql rfl rfl)) (WT.e 13 [false, false, false, false] rfl (eff_call call86 (uregister_ok (key := key) (fresh := new) (ign := decide (kind = 11)) (i := i) (t := u.t) hi (h.fetch (blk bt u.t.cells 154)))) ?_)))))
   rintro v63 w ⟨a63, c63, hv63, h⟩
   have hX := rvM_reg (t := u.t) (i := i) (c := (⟨kind, at_, n, data, key, new, typ, force⟩ : Cm)) (show kind = 10 ∨ kind = 11 by omega)
   rw [← hX] at hv63 h
   subst hv63
   have h := closeU (bu := bu) (u := u.setT (rvM u.t i (⟨kind, at_, n, data, key, new, typ, force⟩ : Cm)).t) hm hl ((((h.fetch (Big (GOwn pool) gs)).fetch (blk bt (rvM u.t i (⟨kind, at_, n, data, key, new, typ, force⟩ : Cm)).t.cells 154)).fetch (SpP 151 bs u.s)).fetch (blk bu (ucells bs bt gs) 108))
   refine ⟨trivial, ?_⟩
   refine WT.p 14 rfl (fun w' => (run_extract rfl rfl)) (WT.p 15 rfl (fun w' => (run_extract rfl rfl)) ?_)
   refine WT.e 16 [] rfl (eff_call call85 (unoticed_ok (bu := bu) (u := u.setT (rvM u.t i (⟨kind, at_, n, data, key, new, typ, force⟩ : Cm)).t) (l := (rvM u.t i (⟨kind, at_, n, data, key, new, typ, force⟩ : Cm)).l) (code := (rvM u.t i (⟨kind, at_, n, data, key, new, typ, force⟩ : Cm)).code) (a := a63) (c := c63) (rv := (rvM u.t i (⟨kind, at_, n, data, key, new, typ, force⟩ : Cm)).r.val (.slice none 0 0)) (z0 := (rvM u.t i (⟨kind, at_, n, data, key, new, typ, force⟩ : Cm)).r.st) (z1 := (rvM u.t i (⟨kind, at_, n, data, key, new, typ, force⟩ : Cm)).r.key) (z2 := (rvM u.t i (⟨kind, at_, n, data, key, new, typ, force⟩ : Cm)).r.code) (z4 := (rvM u.t i (⟨kind, at_, n, data, key, new, typ, force⟩ : Cm)).r.info) rvM_l.2.2.2 rvM_l.2.1 hsm rfl ((h.fetch (Own 2 (.slice a63 (rvM u.t i (⟨kind, at_, n, data, key, new, typ, force⟩ : Cm)).l.length c63) (rvM u.t i (⟨kind, at_, n, data, key, new, typ, force⟩ : Cm)).l.length (notesV (rvM u.t i (⟨kind, at_, n, data, key, new, typ, force⟩ : Cm)).code (rvM u.t i (⟨kind, at_, n, data, key, new, typ, force⟩ : Cm)).l))).fetch (UnP 108 151 154 bu pool ms (u.setT (rvM u.t i (⟨kind, at_, n, data, key, new, typ, force⟩ : Cm)).t))))) ?_
   rintro _ w ⟨rfl, h⟩
   refine ⟨trivial, ?_⟩
   refine WT.e 17 [] rfl (eff_storeW (vs := [.int .i64 _, .int .i64 _, .int .i64 _, .slice _ _ _, .int .i64 _]) h sizeOf44 rfl rfl rfl rfl rfl) ?_
   rintro _ w h
   refine ⟨trivial, ?_⟩
   refine WT.dn (W.ret (bodyQ.rcB (vs := [.int .i64 _, .int .i64 _, .int .i64 _, .slice _ _ _, .int .i64 _]) h results60 isAgg44 sizeOf44 rfl rfl rfl ?_))
   have he := actM_rv (u := u) (i := i) (c := (⟨kind, at_, n, data, key, new, typ, force⟩ : Cm)) (by show 10 ≤ kind; omega) (by show kind ≤ 15; omega)
   have h := On.nilData (r := (rvM u.t i (⟨kind, at_, n, data, key, new, typ, force⟩ : Cm)).r) rvM_r h
   exact ⟨_, _, .slice none 0 0, he, rfl, h.to⟩
  refine W.skip (W.seq (W.sr (WL.v (run_eql rfl rfl) (WL.a (WL.nil ?_)))))
  refine W.condIf rfl (fun c52 => ?_) (fun c52 => ?_)
  ·
   refine W.exit (W.seq (W.seq ?_))
   have ob_ := openU (h.fetch (UnP 108 151 154 bu pool ms u))
   obtain ⟨bs, bt, gs, hm, hl, h⟩ := ob_
   refine W.draw Tryz.follows h (fun w h => ?_)
   refine WT.m 0 rfl (WT.n 1 rfl rfl (WT.f 2 1 rfl underlying108 rfl sizeOf100 rfl rfl (WT.l 3 rfl isAgg100 rfl (h.cellB rfl) (WT.m 4 rfl (WT.f 5 4 rfl underlying29 rfl sizeOf27 rfl rfl (WT.l 6 rfl isAgg27 rfl (h.cellB rfl) (WT.f 7 6 rfl underlying29 rfl sizeOf3 rfl rfl ?_)))))))
   refine WT.l 8 rfl isAgg3 rfl (h.cellB rfl) (WT.e 9 [false, false, false] rfl (eff_call call87 (ureserve_ok (key := key) (typ := typ) (i := i) (t := u.t) hi (h.fetch (blk bt u.t.cells 154)))) ?_)
   rintro v76 w ⟨hv76, h⟩
   have hX := rvM_rsv (t := u.t) (i := i) (c := (⟨kind, at_, n, data, key, new, typ, force⟩ : Cm)) (show kind = 12 by omega)
   rw [← hX] at hv76 h
   subst hv76
   have h := closeU (bu := bu) (u := u.setT (rvM u.t i (⟨kind, at_, n, data, key, new, typ, force⟩ : Cm)).t) hm hl ((((h.fetch (Big (GOwn pool) gs)).fetch (blk bt (rvM u.t i (⟨kind, at_, n, data, key, new, typ, force⟩ : Cm)).t.cells 154)).fetch (SpP 151 bs u.s)).fetch (blk bu (ucells bs bt gs) 108))
   refine ⟨trivial, ?_⟩
   refine WT.e 10 [] rfl (eff_storeW (vs := [.int .i64 _, .int .i64 _, .int .i64 _, .slice _ _ _, .int .i64 _]) h sizeOf44 rfl rfl rfl rfl rfl) ?_
   rintro _ w h
   refine ⟨trivial, ?_⟩
   refine WT.dn (W.ret (bodyQ.rcB (vs := [.int .i64 _, .int .i64 _, .int .i64 _, .slice _ _ _, .int .i64 _]) h results60 isAgg44 sizeOf44 rfl rfl rfl ?_))
   have he := actM_rv (u := u) (i := i) (c := (⟨kind, at_, n, data, key, new, typ, force⟩ : Cm)) (by show 10 ≤ kind; omega) (by show kind ≤ 15; omega)
   have hX0 : (rvM u.t i (⟨kind, at_, n, data, key, new, typ, force⟩ : Cm)).l = [] := by rw [hX]; exact rsvF_l
   have he : actM u i (⟨kind, at_, n, data, key, new, typ, force⟩ : Cm) = (u.setT (rvM u.t i (⟨kind, at_, n, data, key, new, typ, force⟩ : Cm)).t, (rvM u.t i (⟨kind, at_, n, data, key, new, typ, force⟩ : Cm)).r) := by rw [he, hX0]; rfl
   have h := On.nilData (r := (rvM u.t i (⟨kind, at_, n, data, key, new, typ, force⟩ : Cm)).r) rvM_r h
   exact ⟨_, _, .slice none 0 0, he, rfl, h.to⟩
  refine W.skip (W.seq (W.sr (WL.v (run_eql rfl rfl) (WL.a (WL.nil ?_)))))
  refine W.condIf rfl (fun c56 => ?_) (fun c56 => ?_)
  ·
   refine W.exit (W.seq (W.seq ?_))
   have ob_ := openU (h.fetch (UnP 108 151 154 bu pool ms u))
   obtain ⟨bs, bt, gs, hm, hl, h⟩ := ob_
   refine W.draw Tryz.follows h (fun w h => ?_)
   refine WT.m 0 rfl (WT.m 1 rfl (WT.n 2 rfl rfl (WT.f 3 1 rfl underlying108 rfl sizeOf100 rfl rfl (WT.l 4 rfl isAgg100 rfl (h.cellB rfl) (WT.m 5 rfl (WT.f 6 4 rfl underlying29 rfl sizeOf27 rfl rfl (WT.l 7 rfl isAgg27 rfl (h.cellB rfl) ?_)))))))
   refine WT.f 8 6 rfl underlying29 rfl sizeOf3 rfl rfl (WT.l 9 rfl isAgg3 rfl (h.cellB rfl) (WT.e 10 [false, false, false] rfl (eff_call call88 (urelease_ok (key := key) (typ := typ) (i := i) (t := u.t) hi (h.fetch (blk bt u.t.cells 154)))) ?_))
   rintro v87 w ⟨a87, c87, hv87, h⟩
   have hX := rvM_rel (t := u.t) (i := i) (c := (⟨kind, at_, n, data, key, new, typ, force⟩ : Cm)) (show kind = 13 by omega)
   rw [← hX] at hv87 h
   subst hv87
   have h := closeU (bu := bu) (u := u.setT (rvM u.t i (⟨kind, at_, n, data, key, new, typ, force⟩ : Cm)).t) hm hl ((((h.fetch (Big (GOwn pool) gs)).fetch (blk bt (rvM u.t i (⟨kind, at_, n, data, key, new, typ, force⟩ : Cm)).t.cells 154)).fetch (SpP 151 bs u.s)).fetch (blk bu (ucells bs bt gs) 108))
   refine ⟨trivial, ?_⟩
   refine WT.p 11 rfl (fun w' => (run_extract rfl rfl)) (WT.p 12 rfl (fun w' => (run_extract rfl rfl)) ?_)
   refine WT.e 13 [] rfl (eff_call call85 (unoticed_ok (bu := bu) (u := u.setT (rvM u.t i (⟨kind, at_, n, data, key, new, typ, force⟩ : Cm)).t) (l := (rvM u.t i (⟨kind, at_, n, data, key, new, typ, force⟩ : Cm)).l) (code := (rvM u.t i (⟨kind, at_, n, data, key, new, typ, force⟩ : Cm)).code) (a := a87) (c := c87) (rv := (rvM u.t i (⟨kind, at_, n, data, key, new, typ, force⟩ : Cm)).r.val (.slice none 0 0)) (z0 := (rvM u.t i (⟨kind, at_, n, data, key, new, typ, force⟩ : Cm)).r.st) (z1 := (rvM u.t i (⟨kind, at_, n, data, key, new, typ, force⟩ : Cm)).r.key) (z2 := (rvM u.t i (⟨kind, at_, n, data, key, new, typ, force⟩ : Cm)).r.code) (z4 := (rvM u.t i (⟨kind, at_, n, data, key, new, typ, force⟩ : Cm)).r.info) rvM_l.2.2.2 rvM_l.2.1 hsm rfl ((h.fetch (Own 2 (.slice a87 (rvM u.t i (⟨kind, at_, n, data, key, new, typ, force⟩ : Cm)).l.length c87) (rvM u.t i (⟨kind, at_, n, data, key, new, typ, force⟩ : Cm)).l.length (notesV (rvM u.t i (⟨kind, at_, n, data, key, new, typ, force⟩ : Cm)).code (rvM u.t i (⟨kind, at_, n, data, key, new, typ, force⟩ : Cm)).l))).fetch (UnP 108 151 154 bu pool ms (u.setT (rvM u.t i (⟨kind, at_, n, data, key, new, typ, force⟩ : Cm)).t))))) ?_
   rintro _ w ⟨rfl, h⟩
   refine ⟨trivial, ?_⟩
   refine WT.e 14 [] rfl (eff_storeW (vs := [.int .i64 _, .int .i64 _, .int .i64 _, .slice _ _ _, .int .i64 _]) h sizeOf44 rfl rfl rfl rfl rfl) ?_
   rintro _ w h
   refine ⟨trivial, ?_⟩
   refine WT.dn (W.ret (bodyQ.rcB (vs := [.int .i64 _, .int .i64 _, .int .i64 _, .slice _ _ _, .int .i64 _]) h results60 isAgg44 sizeOf44 rfl rfl rfl ?_))
   have he := actM_rv (u := u) (i := i) (c := (⟨kind, at_, n, data, key, new, typ, force⟩ : Cm)) (by show 10 ≤ kind; omega) (by show kind ≤ 15; omega)
   have h := On.nilData (r := (rvM u.t i (⟨kind, at_, n, data, key, new, typ, force⟩ : Cm)).r) rvM_r h
   exact ⟨_, _, .slice none 0 0, he, rfl, h.to⟩
  refine W.skip (W.seq (W.sr (WL.v (run_eql rfl rfl) (WL.a (WL.nil ?_)))))
  refine W.condIf rfl (fun c60 => ?_) (fun c60 => ?_)
  ·
   refine W.exit (W.seq (W.seq ?_))
   have ob_ := openU (h.fetch (UnP 108 151 154 bu pool ms u))
   obtain ⟨bs, bt, gs, hm, hl, h⟩ := ob_
   refine W.draw Tryz.follows h (fun w h => ?_)
   refine WT.m 0 rfl (WT.m 1 rfl (WT.n 2 rfl rfl (WT.f 3 1 rfl underlying108 rfl sizeOf100 rfl rfl (WT.l 4 rfl isAgg100 rfl (h.cellB rfl) (WT.m 5 rfl (WT.f 6 4 rfl underlying29 rfl sizeOf27 rfl rfl (WT.l 7 rfl isAgg27 rfl (h.cellB rfl) ?_)))))))
   refine WT.e 8 [false, false] rfl (eff_call call89 (uclear_ok (key := key) (i := i) (t := u.t) hi (h.fetch (blk bt u.t.cells 154)))) ?_
   rintro v99 w ⟨a99, c99, hv99, h⟩
   have hX := rvM_clr (t := u.t) (i := i) (c := (⟨kind, at_, n, data, key, new, typ, force⟩ : Cm)) (show kind = 14 by omega)
   rw [← hX] at hv99 h
   subst hv99
   have h := closeU (bu := bu) (u := u.setT (rvM u.t i (⟨kind, at_, n, data, key, new, typ, force⟩ : Cm)).t) hm hl ((((h.fetch (Big (GOwn pool) gs)).fetch (blk bt (rvM u.t i (⟨kind, at_, n, data, key, new, typ, force⟩ : Cm)).t.cells 154)).fetch (SpP 151 bs u.s)).fetch (blk bu (ucells bs bt gs) 108))
   refine ⟨trivial, ?_⟩
   refine WT.p 9 rfl (fun w' => (run_extract rfl rfl)) (WT.p 10 rfl (fun w' => (run_extract rfl rfl)) ?_)
   refine WT.e 11 [] rfl (eff_call call85 (unoticed_ok (bu := bu) (u := u.setT (rvM u.t i (⟨kind, at_, n, data, key, new, typ, force⟩ : Cm)).t) (l := (rvM u.t i (⟨kind, at_, n, data, key, new, typ, force⟩ : Cm)).l) (code := (rvM u.t i (⟨kind, at_, n, data, key, new, typ, force⟩ : Cm)).code) (a := a99) (c := c99) (rv := (rvM u.t i (⟨kind, at_, n, data, key, new, typ, force⟩ : Cm)).r.val (.slice none 0 0)) (z0 := (rvM u.t i (⟨kind, at_, n, data, key, new, typ, force⟩ : Cm)).r.st) (z1 := (rvM u.t i (⟨kind, at_, n, data, key, new, typ, force⟩ : Cm)).r.key) (z2 := (rvM u.t i (⟨kind, at_, n, data, key, new, typ, force⟩ : Cm)).r.code) (z4 := (rvM u.t i (⟨kind, at_, n, data, key, new, typ, force⟩ : Cm)).r.info) rvM_l.2.2.2 rvM_l.2.1 hsm rfl ((h.fetch (Own 2 (.slice a99 (rvM u.t i (⟨kind, at_, n, data, key, new, typ, force⟩ : Cm)).l.length c99) (rvM u.t i (⟨kind, at_, n, data, key, new, typ, force⟩ : Cm)).l.length (notesV (rvM u.t i (⟨kind, at_, n, data, key, new, typ, force⟩ : Cm)).code (rvM u.t i (⟨kind, at_, n, data, key, new, typ, force⟩ : Cm)).l))).fetch (UnP 108 151 154 bu pool ms (u.setT (rvM u.t i (⟨kind, at_, n, data, key, new, typ, force⟩ : Cm)).t))))) ?_
   rintro _ w ⟨rfl, h⟩
   refine ⟨trivial, ?_⟩
   refine WT.e 12 [] rfl (eff_storeW (vs := [.int .i64 _, .int .i64 _, .int .i64 _, .slice _ _ _, .int .i64 _]) h sizeOf44 rfl rfl rfl rfl rfl) ?_
   rintro _ w h
   refine ⟨trivial, ?_⟩
   refine WT.dn (W.ret (bodyQ.rcB (vs := [.int .i64 _, .int .i64 _, .int .i64 _, .slice _ _ _, .int .i64 _]) h results60 isAgg44 sizeOf44 rfl rfl rfl ?_))
   have he := actM_rv (u := u) (i := i) (c := (⟨kind, at_, n, data, key, new, typ, force⟩ : Cm)) (by show 10 ≤ kind; omega) (by show kind ≤ 15; omega)
   have h := On.nilData (r := (rvM u.t i (⟨kind, at_, n, data, key, new, typ, force⟩ : Cm)).r) rvM_r h
   exact ⟨_, _, .slice none 0 0, he, rfl, h.to⟩
  refine W.skip (W.seq (W.sr (WL.v (run_eql rfl rfl) (WL.a (WL.nil ?_)))))
  refine W.condIf rfl (fun c64 => ?_) (fun c64 => ?_)
  ·
   refine W.exit (W.seq (W.seq ?_))
   have ob_ := openU (h.fetch (UnP 108 151 154 bu pool ms u))
   obtain ⟨bs, bt, gs, hm, hl, h⟩ := ob_
   refine W.draw Tryz.follows h (fun w h => ?_)
   refine WT.m 0 rfl (WT.m 1 rfl (WT.n 2 rfl rfl (WT.f 3 1 rfl underlying108 rfl sizeOf100 rfl rfl (WT.l 4 rfl isAgg100 rfl (h.cellB rfl) (WT.m 5 rfl (WT.f 6 4 rfl underlying29 rfl sizeOf27 rfl rfl (WT.l 7 rfl isAgg27 rfl (h.cellB rfl) ?_)))))))
   refine WT.f 8 5 rfl underlying29 rfl sizeOf27 rfl rfl (WT.l 9 rfl isAgg27 rfl (h.cellB rfl) (WT.f 10 6 rfl underlying29 rfl sizeOf3 rfl rfl (WT.l 11 rfl isAgg3 rfl (h.cellB rfl) (WT.e 12 [false, false, false, false] rfl (eff_call call90 (upreempt_ok (key := key) (other := new) (typ := typ) (ii := i) (t := u.t) hi (goodT_hold hgu_.1) (h.fetch (blk bt u.t.cells 154)))) ?_))))
   rintro v115 w ⟨a115, c115, hv115, h⟩
   have hX := rvM_pre (t := u.t) (i := i) (c := (⟨kind, at_, n, data, key, new, typ, force⟩ : Cm)) (show kind = 15 by omega)
   rw [← hX] at hv115 h
   subst hv115
   have h := closeU (bu := bu) (u := u.setT (rvM u.t i (⟨kind, at_, n, data, key, new, typ, force⟩ : Cm)).t) hm hl ((((h.fetch (Big (GOwn pool) gs)).fetch (blk bt (rvM u.t i (⟨kind, at_, n, data, key, new, typ, force⟩ : Cm)).t.cells 154)).fetch (SpP 151 bs u.s)).fetch (blk bu (ucells bs bt gs) 108))
   refine ⟨trivial, ?_⟩
   refine WT.p 13 rfl (fun w' => (run_extract rfl rfl)) (WT.p 14 rfl (fun w' => (run_extract rfl rfl)) ?_)
   refine WT.e 15 [] rfl (eff_call call85 (unoticed_ok (bu := bu) (u := u.setT (rvM u.t i (⟨kind, at_, n, data, key, new, typ, force⟩ : Cm)).t) (l := (rvM u.t i (⟨kind, at_, n, data, key, new, typ, force⟩ : Cm)).l) (code := (rvM u.t i (⟨kind, at_, n, data, key, new, typ, force⟩ : Cm)).code) (a := a115) (c := c115) (rv := (rvM u.t i (⟨kind, at_, n, data, key, new, typ, force⟩ : Cm)).r.val (.slice none 0 0)) (z0 := (rvM u.t i (⟨kind, at_, n, data, key, new, typ, force⟩ : Cm)).r.st) (z1 := (rvM u.t i (⟨kind, at_, n, data, key, new, typ, force⟩ : Cm)).r.key) (z2 := (rvM u.t i (⟨kind, at_, n, data, key, new, typ, force⟩ : Cm)).r.code) (z4 := (rvM u.t i (⟨kind, at_, n, data, key, new, typ, force⟩ : Cm)).r.info) rvM_l.2.2.2 rvM_l.2.1 hsm rfl ((h.fetch (Own 2 (.slice a115 (rvM u.t i (⟨kind, at_, n, data, key, new, typ, force⟩ : Cm)).l.length c115) (rvM u.t i (⟨kind, at_, n, data, key, new, typ, force⟩ : Cm)).l.length (notesV (rvM u.t i (⟨kind, at_, n, data, key, new, typ, force⟩ : Cm)).code (rvM u.t i (⟨kind, at_, n, data, key, new, typ, force⟩ : Cm)).l))).fetch (UnP 108 151 154 bu pool ms (u.setT (rvM u.t i (⟨kind, at_, n, data, key, new, typ, force⟩ : Cm)).t))))) ?_
   rintro _ w ⟨rfl, h⟩
   refine ⟨trivial, ?_⟩
   refine WT.e 16 [] rfl (eff_storeW (vs := [.int .i64 _, .int .i64 _, .int .i64 _, .slice _ _ _, .int .i64 _]) h sizeOf44 rfl rfl rfl rfl rfl) ?_
   rintro _ w h
   refine ⟨trivial, ?_⟩
   refine WT.dn (W.ret (bodyQ.rcB (vs := [.int .i64 _, .int .i64 _, .int .i64 _, .slice _ _ _, .int .i64 _]) h results60 isAgg44 sizeOf44 rfl rfl rfl ?_))
   have he := actM_rv (u := u) (i := i) (c := (⟨kind, at_, n, data, key, new, typ, force⟩ : Cm)) (by show 10 ≤ kind; omega) (by show kind ≤ 15; omega)
   have h := On.nilData (r := (rvM u.t i (⟨kind, at_, n, data, key, new, typ, force⟩ : Cm)).r) rvM_r h
   exact ⟨_, _, .slice none 0 0, he, rfl, h.to⟩
  refine W.skip (W.seq (W.sr (WL.v (run_eql rfl rfl) (WL.a (WL.nil ?_)))))
  refine W.condIf rfl (fun c68 => ?_) (fun c68 => ?_)
  ·
   refine W.exit (W.seq (W.seq ?_))
   have ob_ := openU (h.fetch (UnP 108 151 154 bu pool ms u))
   obtain ⟨bs, bt, gs, hm, hl, h⟩ := ob_
   refine W.draw Tryz.follows h (fun w h => ?_)
   refine WT.m 0 rfl (WT.n 1 rfl rfl (WT.f 2 1 rfl underlying108 rfl sizeOf100 rfl rfl (WT.l 3 rfl isAgg100 rfl (h.cellB rfl) (WT.m 5 rfl (WT.n 6 rfl rfl (WT.f 7 1 rfl underlying108 rfl sizeOf100 rfl rfl (WT.l 8 rfl isAgg100 rfl (h.cellB rfl) ?_)))))))
   refine WT.e 4 [true, false] rfl (eff_call call92 (generation_ok (t := u.t) (h.fetch (blk bt u.t.cells 154)))) ?_
   rintro v123 w ⟨hv123, h⟩
   rw [egen] at hv123
   subst hv123
   refine ⟨⟨h.cellB rfl, trivial⟩, ?_⟩
   refine WT.e 9 [false] rfl (eff_call call93 (ukeys_ok (t := u.t) (b := bt) (h.fetch (blk bt u.t.cells 154)))) ?_
   rintro _ w ⟨a128, rfl, h⟩
   refine ⟨trivial, ?_⟩
   refine WT.e 10 [] rfl (eff_call call91 (pkeys_ok (g := u.t.gen.toNat) (ks := keysN u.t.K 8) (ak := a128) (ck := (keysN u.t.K 8).length) (by have := hgok.2; omega) (fun x hx => by have hm := keysN_mem hx; obtain ⟨q, hq, e⟩ := hm; rw [e]; exact hgok.1 q hq) (keysN_len ..) h (Gives.ownO (v := .slice a128 (keysN u.t.K 8).length (keysN u.t.K 8).length)))) ?_
   rintro v129 w ⟨a129, hv129, h⟩
   rw [keysP_all] at hv129 h
   subst hv129
   refine ⟨trivial, ?_⟩
   refine WT.e 11 [] rfl (eff_call call58 (sgood_ok (bs := keysB u.t) h (Gives.ownO (v := .slice a129 (keysB u.t).length (keysB u.t).length)) (by have := keysN_len u.t.K 8; rw [keysB_len]; omega))) ?_
   rintro _ w ⟨a130, rfl, h⟩
   have h := closeU (bu := bu) (u := u) hm hl ((((h.fetch (Big (GOwn pool) gs)).fetch (blk bt u.t.cells 154)).fetch (SpP 151 bs u.s)).fetch (blk bu (ucells bs bt gs) 108))
   refine ⟨trivial, ?_⟩
   refine WT.e 12 [] rfl (eff_storeW (vs := [.int .i64 _, .int .i64 _, .int .i64 _, .slice _ _ _, .int .i64 _]) h sizeOf44 rfl rfl rfl rfl rfl) ?_
   rintro _ w h
   refine ⟨trivial, ?_⟩
   refine WT.dn (W.ret (bodyQ.rcB (vs := [.int .i64 _, .int .i64 _, .int .i64 _, .slice _ _ _, .int .i64 _]) h results60 isAgg44 sizeOf44 rfl rfl rfl ?_))
   have h : On W0 (OwnB (.slice a130 ((keysB u.t)).length ((keysB u.t)).length) (gave ((keysB u.t))).data :: _) w := h.fetch (OwnB (.slice a130 ((keysB u.t)).length ((keysB u.t)).length) ((keysB u.t)))
   exact ⟨u, gave ((keysB u.t)), .slice a130 ((keysB u.t)).length ((keysB u.t)).length, (actM_keys (show kind = 16 by omega)), rfl, h.to⟩
  refine W.skip (W.sr (WL.v (run_eql rfl rfl) (WL.a (WL.nil ?_))))
  refine W.condIf rfl (fun c72 => ?_) (fun c72 => ?_)
  ·
   refine W.exit (W.seq (W.seq ?_))
   have ob_ := openU (h.fetch (UnP 108 151 154 bu pool ms u))
   obtain ⟨bs, bt, gs, hm, hl, h⟩ := ob_
   refine W.region (WL.m (WL.n rfl (WL.f 1 underlying108 rfl sizeOf100 rfl rfl (WL.l isAgg100 rfl (h.cellB rfl) (WL.e (eff_call call94 (holder_ok (t := u.t) (b := bt) (h.fetch (blk bt u.t.cells 154)))) ?_)))))
   rintro v136 w ⟨hv136, h⟩
   have htyp := goodT_typ hgt
   have etyp : u.t.typ = ((u.t.typ.toNat : Nat) : Int) := by omega
   rw [etyp] at hv136
   subst hv136
   refine WL.m (WL.v (run_extract rfl rfl) (WL.v (run_extract rfl rfl) (WL.a (WL.a (WL.nil (W.seq ?_))))))
   refine W.draw Tryz.follows h (fun w h => ?_)
   refine WT.m 0 rfl (WT.n 1 rfl rfl (WT.f 2 1 rfl underlying108 rfl sizeOf100 rfl rfl (WT.l 3 rfl isAgg100 rfl (h.cellB rfl) (WT.m 5 rfl (WT.n 6 rfl rfl (WT.f 7 1 rfl underlying108 rfl sizeOf100 rfl rfl (WT.l 8 rfl isAgg100 rfl (h.cellB rfl) ?_)))))))
   refine WT.m 9 rfl (WT.m 11 rfl (WT.e 4 [true, false] rfl (eff_call call92 (generation_ok (t := u.t) (h.fetch (blk bt u.t.cells 154)))) ?_))
   rintro v143 w ⟨hv143, h⟩
   rw [egen] at hv143
   subst hv143
   refine ⟨⟨h.cellB rfl, trivial⟩, ?_⟩
   refine WT.e 10 [false] rfl (eff_call call96 (ukey_ok (t := u.t) (b := bt) (hh := u.t.hold) (h.fetch (blk bt u.t.cells 154)))) ?_
   rintro v149 w ⟨hv149, h⟩
   have hv149 : v149 = .int .u64 (holdK u.t) := hv149
   have hkk : 0 ≤ holdK u.t ∧ holdK u.t < 18446744073709551616 := by
     unfold holdK
     split
     · rename_i hb
       have hb := hostB_iff.1 hb
       exact hgok.1 _ (by omega)
     · exact ⟨Int.le_refl 0, by decide⟩
   have ekk : holdK u.t = (((holdK u.t).toNat : Nat) : Int) := by omega
   rw [ekk] at hv149
   subst hv149
   refine ⟨trivial, ?_⟩
   refine WT.e 12 [] rfl (eff_call call95 (pholder_ok (g := u.t.gen.toNat) (key := (holdK u.t).toNat) (y := u.t.typ.toNat) (by have := hgok.2; omega) (by omega) (by omega) h)) ?_
   rintro v151 w ⟨a151, hv151, h⟩
   rw [← holdB_P htyp.1] at hv151 h
   subst hv151
   refine ⟨trivial, ?_⟩
   refine WT.e 13 [] rfl (eff_call call58 (sgood_ok (bs := holdB u.t) h (Gives.ownO (v := .slice a151 (holdB u.t).length (holdB u.t).length)) (by have := holdB_len u.t; omega))) ?_
   rintro _ w ⟨a152, rfl, h⟩
   have h := closeU (bu := bu) (u := u) hm hl ((((h.fetch (Big (GOwn pool) gs)).fetch (blk bt u.t.cells 154)).fetch (SpP 151 bs u.s)).fetch (blk bu (ucells bs bt gs) 108))
   refine ⟨trivial, ?_⟩
   refine WT.e 14 [] rfl (eff_storeW (vs := [.int .i64 _, .int .i64 _, .int .i64 _, .slice _ _ _, .int .i64 _]) h sizeOf44 rfl rfl rfl rfl rfl) ?_
   rintro _ w h
   refine ⟨trivial, ?_⟩
   refine WT.dn (W.ret (bodyQ.rcB (vs := [.int .i64 _, .int .i64 _, .int .i64 _, .slice _ _ _, .int .i64 _]) h results60 isAgg44 sizeOf44 rfl rfl rfl ?_))
   have h : On W0 (OwnB (.slice a152 ((holdB u.t)).length ((holdB u.t)).length) (gave ((holdB u.t))).data :: _) w := h.fetch (OwnB (.slice a152 ((holdB u.t)).length ((holdB u.t)).length) ((holdB u.t)))
   exact ⟨u, gave ((holdB u.t)), .slice a152 ((holdB u.t)).length ((holdB u.t)).length, (actM_hold (show kind = 17 by omega)), rfl, h.to⟩
  refine W.skip (W.exit (W.seq (W.sr (WL.m (WL.nil (W.block ?_))))))
  refine W.loop (fun (k : Nat) env w => k ≤ 8 ∧ ∃ j, env = mkE j [(0, .pointer (some ⟨bu, 0, none⟩)), (153, .int .i64 (k : Int)), (6, .pointer (some ⟨b6, 0, none⟩))] ∧ On W0 (UnP 108 151 154 bu pool ms (resetN u k) :: blk b6 [.int .i64 0, .int .i64 0, .int .i64 0, .slice none 0 0, .int .i64 0] 44 :: L) w) (fun k => 8 - k) (0) ?_ ?_
  · have h : On W0 (UnP 108 151 154 bu pool ms (resetN u 0) :: _) w := h.fetch (UnP 108 151 154 bu pool ms u)
    exact ⟨Nat.zero_le _, _, mkE_of ⟨rfl, rfl, rfl, trivial⟩, h.to⟩
  rintro k env w ⟨hk8, j, rfl, h⟩
  refine W.sr (WL.v (run_lss rfl rfl) (WL.nil (W.seq ?_)))
  refine W.condIf rfl (fun c114 => ?_) (fun c114 => ?_)
  ·
   refine W.skip (W.seq ?_)
   have hk7 : k < 8 := by omega
   have hsk : ((resetN u k).guest k).codes.length ≤ 1000000 := by rw [resetN_guest k (Nat.le_refl _)]; exact hsm1 k hk7
   refine W.block (W.sr (WL.m (WL.a (WL.nil (W.region (WL.m ?_))))))
   refine WL.m (WL.e (eff_call call97 (tell_ok (i := k) hk7 hsk h)) ?_)
   rintro _ w h
   have h : On W0 (UnP 108 151 154 bu pool ms (resetN u (k + 1)) :: _) w := h
   refine WL.nil (W.region (WL.v (run_incN rfl rfl (by omega)) (WL.m (WL.nil ?_))))
   exact ⟨k + 1, ⟨by omega, _, mkE_of ⟨rfl, rfl, rfl, trivial⟩, h⟩, by show 8 - (k + 1) < 8 - k; omega⟩
  refine W.exit (W.sr (WL.v (run_buildS (pl := [(0, 1), (1, 1), (2, 1), (3, 1), (4, 1)]) (out := [.int .i64 _, .int .i64 _, .int .i64 _, .slice _ _ _, .int .i64 _]) underlying44 zeroValue44 (fun w => by kernel_rfl) rfl (trivial) rfl) (WL.e (eff_storeW (vs := [.int .i64 _, .int .i64 _, .int .i64 _, .slice _ _ _, .int .i64 _]) h sizeOf44 rfl rfl rfl rfl rfl) ?_)))
  rintro _ w h
  refine WL.nil (W.ret (bodyQ.rcB (vs := [.int .i64 _, .int .i64 _, .int .i64 _, .slice _ _ _, .int .i64 _]) h results60 isAgg44 sizeOf44 rfl rfl rfl ?_))
  have ob_ : k = 8 := by omega
  obtain rfl := ob_
  have h : On W0 (OwnB (.slice none 0 0) (plain 0 0 0 : Rp).data :: _) w := h.ownEmpty 1 none
  exact ⟨(resetN u 8), plain 0 0 0, .slice none 0 0, (actM_reset (by show kind = 18; omega)), rfl, h.to⟩
theorem udo_ok {bu : Nat} {hh : Int} {u : Un} {pool : PoolL} {ms : List Nat} {kind at_ n key new typ : Int} {force : Bool} {data : List UInt8} {ax : Option Addr} {cx : Nat} (hsm : small 999000 u) (hgu_ : goodU u) (hcm : okCm (⟨kind, at_, n, data, key, new, typ, force⟩ : Cm)) (h : On W0 (UnP 108 151 154 bu pool ms u :: L) w) (C : Gives L (Bytes (.slice ax data.length cx) data)) (hd : data.length ≤ 1000000) : Calls Tryz.prog 18 #[.pointer (some ⟨bu, 0, none⟩), .int .i64 hh, (⟨kind, at_, n, data, key, new, typ, force⟩ : Cm).val (.slice ax data.length cx)] w (Ret fun v w' => ∃ u' r dv, doM u hh (⟨kind, at_, n, data, key, new, typ, force⟩ : Cm) = (u', r) ∧ v = r.val dv ∧ On W0 (OwnB dv r.data :: UnP 108 151 154 bu pool ms u' :: L) w') := by
  refine enter func18 rfl ntmps18 rfl (W.sr (WL.e (eff_box (v := .agg _) (l := (⟨kind, at_, n, data, key, new, typ, force⟩ : Cm).cells (.slice ax data.length cx)) h rfl rfl) ?_))
  rintro _ w ⟨b5, rfl, h⟩
  have h : On W0 (blk b5 [.int .i64 kind, .int .i64 at_, .int .i64 n, .slice ax data.length cx, .int .u64 key, .int .u64 new, .int .i64 typ, .bool force] 29 :: _) w := h
  refine WL.e (eff_alloc h zeroValue44 rfl) ?_
  rintro _ w ⟨b6, rfl, h⟩
  refine WL.nil (W.seq (W.sr (WL.m (WL.e (eff_call call56 (uhost_ok h)) ?_))))
  rintro _ w ⟨hv, h⟩
  have hcs := Bool.eq_false_or_eq_true (hostB hh)
  rcases hcs with hb | hb <;> (rw [hb] at hv; subst hv)
  ·
   refine WL.v (run_not rfl) (WL.m (WL.f 0 underlying29 rfl sizeOf3 rfl rfl (WL.l isAgg3 rfl (h.cellB rfl) ?_)))
   refine WL.dec (run_lss rfl rfl) rfl rfl (fun c17 => ?_) (fun c17 => ?_)
   ·
    refine WL.v (run_pickF rfl) (WL.m (WL.s (WL.s (WL.s (WL.v (run_pickT rfl) (WL.nil (W.condT rfl ?_)))))))
    refine W.sr (WL.e (eff_call call49 (wrong_ok h)) ?_)
    rintro _ w ⟨rfl, h⟩
    refine WL.e (eff_storeW (vs := [.int .i64 _, .int .i64 _, .int .i64 _, .slice _ _ _, .int .i64 _]) h sizeOf44 rfl rfl rfl rfl rfl) ?_
    rintro _ w h
    refine WL.nil (W.ret (bodyQ.rcB (vs := [.int .i64 _, .int .i64 _, .int .i64 _, .slice _ _ _, .int .i64 _]) h results18 isAgg44 sizeOf44 rfl rfl rfl ?_))
    have h : On W0 (OwnB (.slice none 0 0) (plain 2 5 8192 : Rp).data :: _) w := h.ownEmpty 1 none
    exact ⟨u, plain 2 5 8192, .slice none 0 0, (doM_bad (.inr (.inl c17))), rfl, h.to⟩
   refine WL.v (run_pickF rfl) (WL.m (WL.f 0 underlying29 rfl sizeOf3 rfl rfl (WL.l isAgg3 rfl (h.cellB rfl) (WL.v (run_gtr rfl rfl) (WL.v (run_pickF rfl) (WL.nil ?_))))))
   refine W.condIf rfl (fun c2 => ?_) (fun c2 => ?_)
   ·
    refine W.sr (WL.e (eff_call call49 (wrong_ok h)) ?_)
    rintro _ w ⟨rfl, h⟩
    refine WL.e (eff_storeW (vs := [.int .i64 _, .int .i64 _, .int .i64 _, .slice _ _ _, .int .i64 _]) h sizeOf44 rfl rfl rfl rfl rfl) ?_
    rintro _ w h
    refine WL.nil (W.ret (bodyQ.rcB (vs := [.int .i64 _, .int .i64 _, .int .i64 _, .slice _ _ _, .int .i64 _]) h results18 isAgg44 sizeOf44 rfl rfl rfl ?_))
    have h : On W0 (OwnB (.slice none 0 0) (plain 2 5 8192 : Rp).data :: _) w := h.ownEmpty 1 none
    exact ⟨u, plain 2 5 8192, .slice none 0 0, (doM_bad (.inr (.inr (by show 18 < kind; omega)))), rfl, h.to⟩
   refine W.skip (W.seq (W.seq ?_))
   have hb2 := hostB_iff.1 hb
   have ob_ := Int.eq_ofNat_of_zero_le hb2.1
   obtain ⟨i, hhi⟩ := ob_
   subst hhi
   have hi : i < 8 := by omega
   refine W.region (WL.f 0 underlying29 rfl sizeOf3 rfl rfl (WL.l isAgg3 rfl (h.cellB rfl) (WL.nil (W.block (W.sr (WL.v (run_eql rfl rfl) ?_))))))
   refine WL.a (WL.nil ?_)
   refine W.condIf rfl (fun c9 => ?_) (fun c9 => ?_)
   ·
    refine W.sr (WL.m (WL.m (WL.e (eff_call call57 (told_ok hi (small_le hsm (by decide) i hi) (h.fetch (UnP 108 151 154 bu pool ms u)))) ?_)))
    rintro _ w hv
    rcases hv with ⟨x, l, hxl, rfl, h⟩ | ⟨hnil, rfl, h⟩
    ·
     have hx0 := hgu_.2 i hi x (by rw [hxl]; exact List.mem_cons_self ..)
     have ob_ := Int.eq_ofNat_of_zero_le hx0.1
     obtain ⟨x, hx1⟩ := ob_
     subst hx1
     refine WL.m (WL.v (run_extract rfl rfl) (WL.v (run_extract rfl rfl) (WL.e (eff_alloc h zeroValue44 rfl) ?_)))
     rintro _ w ⟨b7, rfl, h⟩
     refine WL.e (eff_storeW (vs := [.int .i64 _, .int .i64 _, .int .i64 _, .slice _ _ _, .int .i64 _]) h sizeOf44 rfl rfl rfl rfl rfl) ?_
     rintro _ w h
     refine WL.a (WL.nil (W.sr (WL.v (run_loadB (vs := [.int .i64 _, .int .i64 _, .int .i64 _, .slice _ _ _, .int .i64 _]) h isAgg44 sizeOf44 rfl rfl rfl) (WL.e (eff_call call20 (senc_ok (s := 2) (k := 6) (c := x) (by decide) (by omega) h)) ?_))))
     rintro _ w ⟨a44, rfl, h⟩
     refine WL.e (eff_call call58 (sgood_ok (bs := senseB 6 x) h (Gives.ownO (v := .slice a44 (senseB 6 x).length (senseB 6 x).length)) (by rw [senseB_len]; decide))) ?_
     rintro _ w ⟨a45, rfl, h⟩
     refine WL.e (eff_storeW (vs := [.int .i64 _, .int .i64 _, .int .i64 _, .slice _ _ _, .int .i64 _]) h sizeOf44 rfl rfl rfl rfl rfl) ?_
     rintro _ w h
     refine WL.nil (W.ret (bodyQ.rcB (vs := [.int .i64 _, .int .i64 _, .int .i64 _, .slice _ _ _, .int .i64 _]) h results18 isAgg44 sizeOf44 rfl rfl rfl ?_))
     have h : On W0 (OwnB (.slice a45 ((senseB 6 x)).length ((senseB 6 x)).length) (gave ((senseB 6 x))).data :: _) w := h.fetch (OwnB (.slice a45 ((senseB 6 x)).length ((senseB 6 x)).length) ((senseB 6 x)))
     exact ⟨(u.putG i (u.guest i).pop), gave ((senseB 6 x)), .slice a45 ((senseB 6 x)).length ((senseB 6 x)).length, (by rw [doM_sense1 hi c9 hxl]; rfl), rfl, h.to⟩
    refine WL.m (WL.v (run_extract rfl rfl) (WL.v (run_extract rfl rfl) (WL.e (eff_alloc h zeroValue44 rfl) ?_)))
    rintro _ w ⟨b7, rfl, h⟩
    refine WL.e (eff_storeW (vs := [.int .i64 _, .int .i64 _, .int .i64 _, .slice _ _ _, .int .i64 _]) h sizeOf44 rfl rfl rfl rfl rfl) ?_
    rintro _ w h
    refine WL.a (WL.nil (W.sr (WL.v (run_loadB (vs := [.int .i64 _, .int .i64 _, .int .i64 _, .slice _ _ _, .int .i64 _]) h isAgg44 sizeOf44 rfl rfl rfl) (WL.e (eff_call call20 (senc_ok (s := 0) (k := 0) (c := 0) (by decide) (by decide) h)) ?_))))
    rintro _ w ⟨a44, rfl, h⟩
    refine WL.e (eff_call call58 (sgood_ok (bs := senseB 0 0) h (Gives.ownO (v := .slice a44 (senseB 0 0).length (senseB 0 0).length)) (by rw [senseB_len]; decide))) ?_
    rintro _ w ⟨a45, rfl, h⟩
    refine WL.e (eff_storeW (vs := [.int .i64 _, .int .i64 _, .int .i64 _, .slice _ _ _, .int .i64 _]) h sizeOf44 rfl rfl rfl rfl rfl) ?_
    rintro _ w h
    refine WL.nil (W.ret (bodyQ.rcB (vs := [.int .i64 _, .int .i64 _, .int .i64 _, .slice _ _ _, .int .i64 _]) h results18 isAgg44 sizeOf44 rfl rfl rfl ?_))
    have h : On W0 (OwnB (.slice a45 ((senseB 0 0)).length ((senseB 0 0)).length) (gave ((senseB 0 0))).data :: _) w := h.fetch (OwnB (.slice a45 ((senseB 0 0)).length ((senseB 0 0)).length) ((senseB 0 0)))
    exact ⟨u, gave ((senseB 0 0)), .slice a45 ((senseB 0 0)).length ((senseB 0 0)).length, (doM_sense0 hi c9 hnil), rfl, h.to⟩
   refine W.sr (WL.v (run_eql rfl rfl) (WL.a (WL.nil ?_)))
   refine W.condIf rfl (fun c14 => ?_) (fun c14 => ?_)
   ·
    refine W.skip (W.seq (W.seq ?_))
    have ob_ := openU (h.fetch (UnP 108 151 154 bu pool ms u))
    obtain ⟨bs, bt, gs, hm, hl, h⟩ := ob_
    refine W.draw Tryz.follows h (fun w h => ?_)
    refine WT.m 0 rfl (WT.n 1 rfl rfl (WT.f 2 1 rfl underlying108 rfl sizeOf100 rfl rfl (WT.l 3 rfl isAgg100 rfl (h.cellB rfl) (WT.m 4 rfl (WT.f 5 0 rfl underlying29 rfl sizeOf3 rfl rfl (WT.l 6 rfl isAgg3 rfl (h.cellB rfl) (WT.e 7 [false, false] rfl (eff_call call59 (allows_ok (b := bt) (t := u.t) (h.fetch (blk bt u.t.cells 154)))) ?_)))))))
    rintro _ w ⟨⟨r, rfl, hr⟩, h⟩
    have hcs := Bool.eq_false_or_eq_true r
    rcases hcs with hr2 | hr2 <;> (subst hr2)
    all_goals (refine ⟨trivial, ?_⟩)
    ·
     refine WT.p 8 rfl (fun w' => (run_not rfl)) (WT.dn ?_)
     have h := closeU (bu := bu) (u := u) hm hl ((((h.fetch (Big (GOwn pool) gs)).fetch (blk bt u.t.cells 154)).fetch (SpP 151 bs u.s)).fetch (blk bu (ucells bs bt gs) 108))
     refine W.condF rfl (W.skip (W.sr (WL.m (WL.m (WL.v (run_loadB (vs := [.int .i64 _, .int .i64 _, .int .i64 _, .slice _ _ _, .int .u64 _, .int .u64 _, .int .i64 _, .bool _]) h isAgg29 sizeOf29 rfl rfl rfl) (WL.e (eff_call call60 (uact_ok (u := u) (i := i) hi (by omega) (by omega) c9 hsm hgu_ hcm (h.fetch (UnP 108 151 154 bu pool ms u)) (Gives.to C) hd)) ?_))))))
     rintro _ w ⟨u', r', dv', heq, rfl, h⟩
     have of_ := Own.form h
     obtain ⟨ad, cd, hdv, _⟩ := of_
     subst hdv
     refine WL.e (eff_storeW (vs := [.int .i64 _, .int .i64 _, .int .i64 _, .slice _ _ _, .int .i64 _]) h sizeOf44 rfl rfl rfl rfl rfl) ?_
     rintro _ w h
     refine WL.nil (W.ret (bodyQ.rcB (vs := [.int .i64 _, .int .i64 _, .int .i64 _, .slice _ _ _, .int .i64 _]) h results18 isAgg44 sizeOf44 rfl rfl rfl ?_))
     have he : doM u i (⟨kind, at_, n, data, key, new, typ, force⟩ : Cm) = (u', r') := by rw [doM_go hi (by show 1 ≤ kind; omega) (by show kind ≤ 18; omega) c9 (.inl c14) (hr.1 rfl), heq]
     exact ⟨u', r', _, he, rfl, h.to⟩
    refine WT.p 8 rfl (fun w' => (run_not rfl)) (WT.dn ?_)
    have h := closeU (bu := bu) (u := u) hm hl ((((h.fetch (Big (GOwn pool) gs)).fetch (blk bt u.t.cells 154)).fetch (SpP 151 bs u.s)).fetch (blk bu (ucells bs bt gs) 108))
    refine W.condT rfl (W.sr (WL.v (run_buildS (pl := [(0, 1), (1, 1), (2, 1), (3, 1), (4, 1)]) (out := [.int .i64 _, .int .i64 _, .int .i64 _, .slice _ _ _, .int .i64 _]) underlying44 zeroValue44 (fun w => by kernel_rfl) rfl (⟨⟨_, _, rfl, rfl, by decide⟩, trivial⟩) rfl) (WL.e (eff_storeW (vs := [.int .i64 _, .int .i64 _, .int .i64 _, .slice _ _ _, .int .i64 _]) h sizeOf44 rfl rfl rfl rfl rfl) ?_)))
    rintro _ w h
    refine WL.nil (W.ret (bodyQ.rcB (vs := [.int .i64 _, .int .i64 _, .int .i64 _, .slice _ _ _, .int .i64 _]) h results18 isAgg44 sizeOf44 rfl rfl rfl ?_))
    have h : On W0 (OwnB (.slice none 0 0) (plain 24 0 0 : Rp).data :: _) w := h.ownEmpty 1 none
    exact ⟨u, plain 24 0 0, .slice none 0 0, (doM_no hi (by show 1 ≤ kind; omega) (by show kind ≤ 18; omega) c9 (.inl c14) (fun ha => by cases hr.2 ha)), rfl, h.to⟩
   refine W.sr (WL.m (WL.m (WL.e (eff_call call57 (told_ok hi (small_le hsm (by decide) i hi) (h.fetch (UnP 108 151 154 bu pool ms u)))) ?_)))
   rintro _ w hv
   rcases hv with ⟨x, l, hxl, rfl, h⟩ | ⟨hnil, rfl, h⟩
   ·
    refine WL.m (WL.v (run_extract rfl rfl) (WL.v (run_extract rfl rfl) (WL.e (eff_alloc h zeroValue44 rfl) ?_)))
    rintro _ w ⟨b9, rfl, h⟩
    refine WL.e (eff_storeW (vs := [.int .i64 _, .int .i64 _, .int .i64 _, .slice _ _ _, .int .i64 _]) h sizeOf44 rfl rfl rfl rfl rfl) ?_
    rintro _ w h
    refine WL.a (WL.nil (W.sr (WL.m (WL.nil (W.condT rfl (W.seq ?_))))))
    refine W.region (WL.v (run_loadB (vs := [.int .i64 _, .int .i64 _, .int .i64 _, .slice _ _ _, .int .i64 _]) h isAgg44 sizeOf44 rfl rfl rfl) (WL.e (eff_storeW (vs := [.int .i64 _, .int .i64 _, .int .i64 _, .slice _ _ _, .int .i64 _]) h sizeOf44 rfl rfl rfl rfl rfl) ?_))
    rintro _ w h
    refine WL.nil (W.ret (bodyQ.rcB (vs := [.int .i64 _, .int .i64 _, .int .i64 _, .slice _ _ _, .int .i64 _]) h results18 isAgg44 sizeOf44 rfl rfl rfl ?_))
    have h : On W0 (OwnB (.slice none 0 0) (plain 2 6 x : Rp).data :: _) w := h.ownEmpty 1 none
    exact ⟨(u.putG i (u.guest i).pop), plain 2 6 x, .slice none 0 0, (doM_pop hi (by show 1 ≤ kind; omega) (by show kind ≤ 18; omega) c9 c14 hxl), rfl, h.to⟩
   refine WL.m (WL.v (run_extract rfl rfl) (WL.v (run_extract rfl rfl) (WL.e (eff_alloc h zeroValue44 rfl) ?_)))
   rintro _ w ⟨b9, rfl, h⟩
   refine WL.e (eff_storeW (vs := [.int .i64 _, .int .i64 _, .int .i64 _, .slice _ _ _, .int .i64 _]) h sizeOf44 rfl rfl rfl rfl rfl) ?_
   rintro _ w h
   refine WL.a (WL.nil (W.sr (WL.m (WL.nil (W.condF rfl (W.skip ?_))))))
   refine W.seq (W.seq ?_)
   have ob_ := openU (h.fetch (UnP 108 151 154 bu pool ms u))
   obtain ⟨bs, bt, gs, hm, hl, h⟩ := ob_
   refine W.draw Tryz.follows h (fun w h => ?_)
   refine WT.m 0 rfl (WT.n 1 rfl rfl (WT.f 2 1 rfl underlying108 rfl sizeOf100 rfl rfl (WT.l 3 rfl isAgg100 rfl (h.cellB rfl) (WT.m 4 rfl (WT.f 5 0 rfl underlying29 rfl sizeOf3 rfl rfl (WT.l 6 rfl isAgg3 rfl (h.cellB rfl) (WT.e 7 [false, false] rfl (eff_call call59 (allows_ok (b := bt) (t := u.t) (h.fetch (blk bt u.t.cells 154)))) ?_)))))))
   rintro _ w ⟨⟨r, rfl, hr⟩, h⟩
   have hcs := Bool.eq_false_or_eq_true r
   rcases hcs with hr2 | hr2 <;> (subst hr2)
   all_goals (refine ⟨trivial, ?_⟩)
   ·
    refine WT.p 8 rfl (fun w' => (run_not rfl)) (WT.dn ?_)
    have h := closeU (bu := bu) (u := u) hm hl ((((h.fetch (Big (GOwn pool) gs)).fetch (blk bt u.t.cells 154)).fetch (SpP 151 bs u.s)).fetch (blk bu (ucells bs bt gs) 108))
    refine W.condF rfl (W.skip (W.sr (WL.m (WL.m (WL.v (run_loadB (vs := [.int .i64 _, .int .i64 _, .int .i64 _, .slice _ _ _, .int .u64 _, .int .u64 _, .int .i64 _, .bool _]) h isAgg29 sizeOf29 rfl rfl rfl) (WL.e (eff_call call60 (uact_ok (u := u) (i := i) hi (by omega) (by omega) c9 hsm hgu_ hcm (h.fetch (UnP 108 151 154 bu pool ms u)) (Gives.to C) hd)) ?_))))))
    rintro _ w ⟨u', r', dv', heq, rfl, h⟩
    have of_ := Own.form h
    obtain ⟨ad, cd, hdv, _⟩ := of_
    subst hdv
    refine WL.e (eff_storeW (vs := [.int .i64 _, .int .i64 _, .int .i64 _, .slice _ _ _, .int .i64 _]) h sizeOf44 rfl rfl rfl rfl rfl) ?_
    rintro _ w h
    refine WL.nil (W.ret (bodyQ.rcB (vs := [.int .i64 _, .int .i64 _, .int .i64 _, .slice _ _ _, .int .i64 _]) h results18 isAgg44 sizeOf44 rfl rfl rfl ?_))
    have he : doM u i (⟨kind, at_, n, data, key, new, typ, force⟩ : Cm) = (u', r') := by rw [doM_go hi (by show 1 ≤ kind; omega) (by show kind ≤ 18; omega) c9 (.inr hnil) (hr.1 rfl), heq]
    exact ⟨u', r', _, he, rfl, h.to⟩
   refine WT.p 8 rfl (fun w' => (run_not rfl)) (WT.dn ?_)
   have h := closeU (bu := bu) (u := u) hm hl ((((h.fetch (Big (GOwn pool) gs)).fetch (blk bt u.t.cells 154)).fetch (SpP 151 bs u.s)).fetch (blk bu (ucells bs bt gs) 108))
   refine W.condT rfl (W.sr (WL.v (run_buildS (pl := [(0, 1), (1, 1), (2, 1), (3, 1), (4, 1)]) (out := [.int .i64 _, .int .i64 _, .int .i64 _, .slice _ _ _, .int .i64 _]) underlying44 zeroValue44 (fun w => by kernel_rfl) rfl (⟨⟨_, _, rfl, rfl, by decide⟩, trivial⟩) rfl) (WL.e (eff_storeW (vs := [.int .i64 _, .int .i64 _, .int .i64 _, .slice _ _ _, .int .i64 _]) h sizeOf44 rfl rfl rfl rfl rfl) ?_)))
   rintro _ w h
   refine WL.nil (W.ret (bodyQ.rcB (vs := [.int .i64 _, .int .i64 _, .int .i64 _, .slice _ _ _, .int .i64 _]) h results18 isAgg44 sizeOf44 rfl rfl rfl ?_))
   have h : On W0 (OwnB (.slice none 0 0) (plain 24 0 0 : Rp).data :: _) w := h.ownEmpty 1 none
   exact ⟨u, plain 24 0 0, .slice none 0 0, (doM_no hi (by show 1 ≤ kind; omega) (by show kind ≤ 18; omega) c9 (.inr hnil) (fun ha => by cases hr.2 ha)), rfl, h.to⟩
  refine WL.v (run_not rfl) (WL.m (WL.s (WL.s (WL.s (WL.v (run_pickT rfl) (WL.m (WL.s ?_)))))))
  refine WL.s (WL.s (WL.v (run_pickT rfl) (WL.nil (W.condT rfl (W.sr (WL.e (eff_call call49 (wrong_ok h)) ?_))))))
  rintro _ w ⟨rfl, h⟩
  refine WL.e (eff_storeW (vs := [.int .i64 _, .int .i64 _, .int .i64 _, .slice _ _ _, .int .i64 _]) h sizeOf44 rfl rfl rfl rfl rfl) ?_
  rintro _ w h
  refine WL.nil (W.ret (bodyQ.rcB (vs := [.int .i64 _, .int .i64 _, .int .i64 _, .slice _ _ _, .int .i64 _]) h results18 isAgg44 sizeOf44 rfl rfl rfl ?_))
  have h : On W0 (OwnB (.slice none 0 0) (plain 2 5 8192 : Rp).data :: _) w := h.ownEmpty 1 none
  exact ⟨u, plain 2 5 8192, .slice none 0 0, (doM_bad (.inl hb)), rfl, h.to⟩
end Go.Proofs.YtjfmjbmkkpkppaaGreatDoor
namespace Go.Proofs.YtjfmjbmkkpkppaaGreatDoor
open Go.Proofs.Tryz
open Go Go.Sl Go.Sl.BitM Go.Sl.SpM Go.Sl.RsM Go.Sl.ByM Go.Sl.UnM Go.Sl.TpM
set_option linter.unusedVariables false
set_option linter.unusedSimpArgs false
set_option maxHeartbeats 1000000
set_option maxRecDepth 8000
variable {W0 w : World} {L F : List HProp}
theorem and7 (m : Nat) : ((m &&& 7 : Nat) : Int) = ((m % 8 : Nat) : Int) := by
  rw [show m &&& 7 = m % 2 ^ 3 from Nat.and_two_pow_sub_one_eq_mod m 3]
theorem dkdo_ok {bd : Nat} {u : Un} {name : Str} {kind at_ n key new typ : Int} {force : Bool} {data : List UInt8} {ax : Option Addr} {cx : Nat} (hnl : name.length ≤ 1000) (hall : u.g.all (fun g => g.codes.isEmpty) = true) (hcm : okCm (⟨kind, at_, n, data, key, new, typ, force⟩ : Cm)) (h : On W0 (DeskP 123 108 151 154 bd u :: L) w) (C : Gives L (Bytes (.slice ax data.length cx) data)) (hd : data.length ≤ 1000000) : Calls Tryz.prog 69 #[.pointer (some ⟨bd, 0, none⟩), .string ⟨name.toArray⟩, (⟨kind, at_, n, data, key, new, typ, force⟩ : Cm).val (.slice ax data.length cx)] w (Ret fun v w' => ∃ dv, v = (doM u ((name.length % 8 : Nat) : Int) (⟨kind, at_, n, data, key, new, typ, force⟩ : Cm)).2.val dv ∧ On W0 (OwnB dv (doM u ((name.length % 8 : Nat) : Int) (⟨kind, at_, n, data, key, new, typ, force⟩ : Cm)).2.data :: DeskP 123 108 151 154 bd (doM u ((name.length % 8 : Nat) : Int) (⟨kind, at_, n, data, key, new, typ, force⟩ : Cm)).1 :: L) w') := by
  refine enter func69 rfl ntmps69 rfl ?_
  have hmx := maxLen_eq
  have ho_ := openDk h
  obtain ⟨bu, ms, hgu, h⟩ := ho_
  have hul := On.unLen (h.fetch (UnP 108 151 154 bu [] ms u))
  obtain ⟨hl8, hwf⟩ := hul
  have hsm := small_of hl8 hall
  refine W.sr (WL.e (eff_box (v := (⟨kind, at_, n, data, key, new, typ, force⟩ : Cm).val (.slice ax data.length cx)) (l := (⟨kind, at_, n, data, key, new, typ, force⟩ : Cm).cells (.slice ax data.length cx)) h rfl rfl) ?_)
  rintro _ w ⟨b5, rfl, h⟩
  refine WL.e (eff_alloc h zeroValue44 rfl) ?_
  rintro _ w ⟨b6, rfl, h⟩
  refine WL.nil (W.seq ?_)
  refine W.draw Tryz.follows h (fun w h => ?_)
  refine WT.m 0 rfl (WT.n 1 rfl rfl (WT.f 2 0 rfl underlying123 rfl sizeOf51 rfl rfl (WT.l 3 rfl isAgg51 rfl (h.cellB rfl) (WT.m 4 rfl (WT.p 5 rfl (fun w' => (run_lenStr underlying9 rfl)) (WT.p 6 rfl (fun w' => (run_andV (m := name.length) (n := 7) (and7 _) (congrArg (Value.int .i64) (by show ((name.toArray.size : Nat) : Int) = _; rw [List.size_toArray])) rfl (by show _ ≤ (9223372036854775807 : Int); omega) (by decide))) (WT.loadN 7 rfl (by kernel_rfl) isAgg29 sizeOf29 rfl rfl (h.rowV (n := 8) rfl) rfl rfl ?_)))))))
  refine WT.e 8 [false, false] rfl (eff_call call18 (udo_ok (fun i hi => Nat.le_trans (hsm i hi) (by decide)) hgu hcm (h.fetch (UnP 108 151 154 bu [] ms u)) (Gives.to C) hd)) ?_
  rintro _ w ⟨u2, r2, dv, hdo, rfl, h⟩
  have hfm := Own.form h
  obtain ⟨ad, cd, hdv, _, _, _⟩ := hfm
  subst hdv
  refine ⟨trivial, ?_⟩
  refine WT.e 9 [] rfl (eff_storeW (vs := r2.cells (.slice ad r2.data.length cd)) h sizeOf44 rfl rfl rfl rfl rfl) ?_
  rintro _ w h
  refine ⟨trivial, ?_⟩
  refine WT.dn (W.ret (bodyQ.rcB (vs := r2.cells (.slice ad r2.data.length cd)) h results69 isAgg44 sizeOf44 rfl rfl rfl ?_))
  have hgu2 := goodU_do (hh := ((name.length % 8 : Nat) : Int)) hl8 hgu hcm
  rw [hdo] at hgu2 ⊢
  have h := closeDk (bd := bd) hgu2 (h.to (T := blk bd [.pointer (some ⟨bu, 0, none⟩)] 123 :: UnP 108 151 154 bu [] ms u2   :: OwnB (.slice ad r2.data.length cd) r2.data :: L))
  exact ⟨_, rfl, h.to⟩
end Go.Proofs.YtjfmjbmkkpkppaaGreatDoor
namespace Go.Proofs.YtjfmjbmkkpkppaaGreatDoor
open Go.Proofs.Tryz
open Go Go.Sl Go.Sl.BitM Go.Sl.SpM Go.Sl.RsM Go.Sl.ByM Go.Sl.UnM Go.Sl.TpM
set_option linter.unusedVariables false
set_option linter.unusedSimpArgs false
set_option maxHeartbeats 1000000
set_option maxRecDepth 8000
variable {W0 w : World} {L F : List HProp}
theorem run_minE {P : Program} {w : World} {ρ : Operand → Value} {d : Option Tmp} {ty : TypeId} {pos : String} {af : Array Edge} {g : Option (Nat × Bool)} {tys : Array TypeId} {x y : Operand} {m n z : Int} (hx : ρ x = .int .i64 m) (hy : ρ y = .int .i64 n) (hz : min m n = z) : (execOp ρ ⟨d, .call { callee := .builtin .min, args := #[x, y], argTypes := tys }, ty, pos, af, g⟩).run P w = .ok (.value (.int .i64 z)) w := by
  rw [run_minI hx hy, hz]
theorem done_some {s s' : Se} {u u' : Un} {tag : Nat} {c : Cm} {data : List UInt8} {q : Un × Rp} (hq : q = doM u ((s.p.name.length % 8 : Nat) : Int) { c with data := data }) (h : s.done u tag c data = some (s', u')) :
    (u.g.all (fun g => g.codes.isEmpty) = true ∧ q.2.st = 0 ∧ q.2.data.length ≤ s.p.maxd ∧ 0 < s.p.maxd ∧ data.length ≤ 4096 ∧ q.2.data.length ≤ 4096) ∧ u' = q.1 ∧
      s' = (if q.2.data = [] then s else s.say { zPd with op := 37, tag := tag, off := 0, data := q.2.data, fin := true }).sayer 33 { zPd with tag := tag, st := 0, fin := true, len := q.2.data.length } := by
  unfold Se.done at h
  simp only [] at h
  rw [show doM u (hostN s.p.name : Nat) { c with data := data } = q from hq.symm] at h
  split at h
  · rename_i hc; cases h; exact ⟨hc, rfl, rfl⟩
  · cases h
theorem okData {tag : Nat} {d : List UInt8} (ht : tag < 4294967296) (hd : d.length ≤ 4096) : okPd ({ zPd with op := 37, tag := tag, off := 0, data := d, fin := true } : Pd) := by
  refine ⟨⟨rfl, rfl, (show (0 : Nat) < 128 by decide), (show (0 : Nat) < 256 by decide)⟩, hd, ?_⟩
  intro v hv
  simp only [nums, zPd, List.mem_cons, List.not_mem_nil, or_false] at hv
  rcases hv with rfl | rfl | rfl | rfl | rfl | rfl <;> first | exact ht | decide
theorem run_addE {P : Program} {w : World} {ρ : Operand → Value} {d : Option Tmp} {t ty yt : TypeId} {pos : String} {af : Array Edge} {g : Option (Nat × Bool)} {x y : Operand} {m n z : Int} (hx : ρ x = .int .i64 m) (hy : ρ y = .int .i64 n) (hz : m + n = z) (h : -9223372036854775808 ≤ m + n) (h' : m + n ≤ 9223372036854775807) : (execOp ρ ⟨d, .binOp .add t x y yt, ty, pos, af, g⟩).run P w = .ok (.value (.int .i64 z)) w := by
  rw [run_add hx hy h h', hz]
theorem seMono {T TR K K' b : Nat} {acl : List Str} {dof : Value} {s : Se} (hk : K ≤ K') (H : On W0 (SeP T TR K b acl dof s :: L) w) : On W0 (SeP T TR K' b acl dof s :: L) w := by
  obtain ⟨x, h1, h2, h3⟩ := openSe H
  exact closeSe x h1 (Nat.le_trans h2 hk) h3
theorem sedone_ok {bs bd K tag : Nat} {acl : List Str} {s s' : Se} {u u' : Un} {ac_ : Option Addr} {nc_ cc_ : Nat} {cdat : List UInt8} {kind at_ n key new typ : Int} {force : Bool} {data : List UInt8} {ax : Option Addr} {cx : Nat} (hk : kind = 2 ∨ kind = 3) (hcm : okCm (⟨kind, at_, n, cdat, key, new, typ, force⟩ : Cm)) (ht : tag < 4294967296) (hm : s.done u tag (⟨kind, at_, n, cdat, key, new, typ, force⟩ : Cm) data = some (s', u')) (hK0 : K ≤ 90000) (h : On W0 (SeP 183 117 K bs acl (.func (.func 69) #[.pointer (some ⟨bd, 0, none⟩)] #[]) s :: DeskP 123 108 151 154 bd u :: L) w) (C : Gives L (Bytes (.slice ax data.length cx) data)) : Calls Tryz.prog 165 #[.pointer (some ⟨bs, 0, none⟩), .int .u32 (tag : Int), .agg #[.int .i64 kind, .int .i64 at_, .int .i64 n, .slice ac_ nc_ cc_, .int .u64 key, .int .u64 new, .int .i64 typ, .bool force], .slice ax data.length cx] w (Ret fun v w' => On W0 (SeP 183 117 (K + 8400) bs acl (.func (.func 69) #[.pointer (some ⟨bd, 0, none⟩)] #[]) s' :: DeskP 123 108 151 154 bd u' :: L) w') := by
  refine enter func165 rfl ntmps165 rfl ?_
  have hmx := maxLen_eq
  have ob_ : ∃ q, q = doM u ((s.p.name.length % 8 : Nat) : Int) ⟨kind, at_, n, data, key, new, typ, force⟩ := ⟨_, rfl⟩
  obtain ⟨q, hq⟩ := ob_
  have hds := done_some (c := (⟨kind, at_, n, cdat, key, new, typ, force⟩ : Cm)) hq hm
  obtain ⟨⟨hall, hst, hle, hmx0, hdl, hql⟩, hu, hs'⟩ := hds
  clear hm
  subst hu
  subst hs'
  have ho_ := openSe h
  obtain ⟨x, hok, hK, h⟩ := ho_
  have h : On W0 (blk bs [.slice x.aa acl.length x.ca, (.func (.func 69) #[.pointer (some ⟨bd, 0, none⟩)] #[]), .pointer (some ⟨x.br, 0, none⟩), .string ⟨s.p.name.toArray⟩, .int .i64 (s.p.maxd : Int), .int .i64 (s.p.burst : Int), .bool s.p.imm, .bool s.p.dig, .bool s.open_, .bool false, .int .u32 (s.exp : Int), .int .u32 (s.sn : Int), .slice none 0 0, .slice x.at_ s.told.length x.ct] 183 :: _) w := h
  have hok0 := hok
  obtain ⟨okp, ok2, ok3⟩ := hok
  have okn := okp.name
  have okm := okp.maxd
  refine W.sr (WL.e (eff_box (v := .agg #[.int .i64 kind, .int .i64 at_, .int .i64 n, .slice ac_ nc_ cc_, .int .u64 key, .int .u64 new, .int .i64 typ, .bool force]) (l := [.int .i64 kind, .int .i64 at_, .int .i64 n, .slice ac_ nc_ cc_, .int .u64 key, .int .u64 new, .int .i64 typ, .bool force]) h rfl rfl) ?_)
  rintro _ w ⟨b6, rfl, h⟩
  refine WL.nil (W.seq (W.sr (WL.f 0 underlying29 rfl sizeOf3 rfl rfl (WL.l isAgg3 rfl (h.cellB rfl) (WL.nil (W.block ?_))))))
  refine W.seq (W.sr (WL.v (run_eqlF rfl rfl (by omega)) (WL.a (WL.nil (W.condF rfl (W.seq ?_))))))
  refine W.region (WL.v (run_eqlF rfl rfl (by omega)) (WL.a (WL.nil (W.condF rfl (W.sr (WL.v (run_eqlF rfl rfl (by omega)) ?_))))))
  refine WL.a (WL.nil (W.condF rfl (W.sr (WL.v (run_eqlF rfl rfl (by omega)) (WL.a (WL.nil ?_))))))
  refine W.condF rfl (W.sr (WL.v (run_eqlF rfl rfl (by omega)) (WL.a (WL.nil (W.condF rfl (W.region ?_))))))
  refine WL.v (run_eqlF rfl rfl (by omega)) (WL.a (WL.nil (W.condF rfl (W.region (WL.m (WL.e (eff_call call47 (clone_bytes (ao := ax) (cap := cx) (bs := data) h (Gives.to C) (by omega))) ?_))))))
  rintro _ w ⟨a19, c19, rfl, h⟩
  refine WL.f 3 underlying29 rfl sizeOf26 rfl rfl (WL.e (eff_store (v := .slice _ _ _) h sizeOf26 rfl rfl rfl rfl rfl) ?_)
  rintro _ w h
  try simp only [Nat.zero_add, Nat.add_zero, List.set_cons_zero, List.set_cons_succ] at h
  refine WL.nil (W.seq ?_)
  refine W.draw Tryz.follows h (fun w h => ?_)
  refine WT.m 0 rfl (WT.n 1 rfl rfl (WT.f 2 1 rfl underlying183 rfl sizeOf133 rfl rfl (WT.l 3 rfl isAgg133 rfl (h.cellB rfl) (WT.m 4 rfl (WT.n 5 rfl rfl (WT.f 6 3 rfl underlying183 rfl sizeOf127 rfl rfl (WT.f 7 0 rfl underlying127 rfl sizeOf9 rfl rfl ?_)))))))
  refine WT.l 8 rfl isAgg9 rfl (h.cellB rfl) (WT.loadN (vs := [.int .i64 _, .int .i64 _, .int .i64 _, .slice _ _ _, .int .u64 _, .int .u64 _, .int .i64 _, .bool _]) 9 rfl (by kernel_rfl) isAgg29 sizeOf29 rfl rfl (h.rowV (n := 8) rfl) rfl rfl ?_)
  refine WT.two 10 11 (by kernel_rfl) ?_ ?_
  ·
   refine WT.opOf 10 [false, false, false] rfl (by kernel_rfl) (eff_callV (xs := [_, _]) rfl call69 (dkdo_ok (u := u) (name := s.p.name) (kind := kind) (at_ := at_) (n := n) (data := data) (key := key) (new := new) (typ := typ) (force := force) (ax := a19) (cx := c19) okn hall hcm (h.fetch (DeskP 123 108 151 154 bd u)) (Gives.ownO (v := .slice a19 data.length c19)) (by omega))) rfl rfl ?_
   rintro _ w ⟨dv, rfl, h⟩
   rw [← hq] at h ⊢
   have hfm := Own.form h
   obtain ⟨ad, cd, hdv, hcl, hcm2, _⟩ := hfm
   subst hdv
   refine ⟨trivial, ?_⟩
   refine WT.e 11 [] rfl (eff_alloc h zeroValue44 rfl) ?_
   rintro _ w ⟨b12, rfl, h⟩
   refine ⟨trivial, ?_⟩
   refine WT.e 12 [] rfl (eff_storeW (vs := q.2.cells (.slice ad q.2.data.length cd)) h sizeOf44 rfl rfl rfl rfl rfl) ?_
   rintro _ w h
   refine ⟨trivial, ?_⟩
   refine WT.dn (W.sr (WL.a (WL.nil (W.seq (W.sr ?_)))))
   refine WL.f 0 underlying44 rfl sizeOf3 rfl rfl (WL.l isAgg3 rfl (h.cellB rfl) (WL.v (run_eqlT rfl rfl (hst)) (WL.nil (W.condT rfl (W.region (WL.f 3 underlying44 rfl sizeOf26 rfl rfl (WL.l isAgg26 rfl (h.cellB rfl) ?_)))))))
   refine WL.v (run_lenSlice underlying26 rfl) (WL.a (WL.nil (W.seq (W.sr (WL.a (WL.nil ?_))))))
   refine W.block ?_
   refine W.loop (fun (k : Nat) env w => k ≤ 1 ∧ ∃ (j : Env) (z : Int) (ss : Se) (KK : Nat), ((k = 0 ∧ 0 = z ∧ s = ss ∧ K = KK) ∨ (k = 1 ∧ (s.p.maxd : Int) = z ∧ (s.say ({ zPd with op := 37, tag := tag, off := 0, data := q.2.data, fin := true } : Pd)) = ss ∧ K + 4200 = KK ∧ q.2.data ≠ [])) ∧ env = mkE j [(0, .pointer (some ⟨bs, 0, none⟩)), (1, .int .u32 (tag : Int)), (12, .pointer (some ⟨b12, 0, none⟩)), (13, .int .i64 (q.2.data.length : Int)), (14, .int .i64 z)] ∧ On W0 (SeP 183 117 KK bs acl (.func (.func 69) #[.pointer (some ⟨bd, 0, none⟩)] #[]) ss :: blk b12 (q.2.cells (.slice ad q.2.data.length cd)) 44 :: OwnB (.slice ad q.2.data.length cd) q.2.data :: DeskP 123 108 151 154 bd q.1 :: L) w) (fun k => 1 - k) (0) ?_ ?_
   · have h := closeSe (s := s) x hok0 hK (h.to (T := blk bs [.slice x.aa acl.length x.ca, (.func (.func 69) #[.pointer (some ⟨bd, 0, none⟩)] #[]), .pointer (some ⟨x.br, 0, none⟩), .string ⟨s.p.name.toArray⟩, .int .i64 (s.p.maxd : Int), .int .i64 (s.p.burst : Int), .bool s.p.imm, .bool s.p.dig, .bool s.open_, .bool false, .int .u32 (s.exp : Int), .int .u32 (s.sn : Int), .slice none 0 0, .slice x.at_ s.told.length x.ct] 183 :: RdrP 117 x.br s.r :: Own 1 (.slice x.aa acl.length x.ca) acl.length (acl.map fun t => Value.string ⟨t.toArray⟩) :: OwnB (.slice x.at_ s.told.length x.ct) s.told :: blk b12 (q.2.cells (.slice ad q.2.data.length cd)) 44 :: OwnB (.slice ad q.2.data.length cd) q.2.data :: DeskP 123 108 151 154 bd q.1 :: L))
     exact ⟨by decide, _, 0, s, K, .inl ⟨rfl, rfl, rfl, rfl⟩, mkE_of ⟨rfl, rfl, rfl, rfl, rfl, trivial⟩, h⟩
   clear h hok0
   rintro k env w ⟨hk1, j, z, ss, KK, hcs, rfl, h⟩
   refine W.seq (W.sr (WL.m (WL.m (WL.v (run_lss rfl rfl) (WL.nil ?_)))))
   refine W.condIf rfl (fun c38 => ?_) (fun c38 => ?_)
   ·
    have hcs0 : k = 0 ∧ 0 = z ∧ s = ss ∧ K = KK := by
      rcases hcs with q_ | ⟨_, qz, _⟩
      · exact q_
      · omega
    obtain ⟨hk0, hz0, hss, hKK⟩ := hcs0
    clear hcs
    subst hk0
    subst hz0
    subst hss
    subst hKK
    have hne : q.2.data ≠ [] := by
      intro e
      have := congrArg List.length e
      simp only [List.length_nil] at this
      omega
    have ho_ := openSe h
    obtain ⟨y, hoks, hKs, h⟩ := ho_
    have h : On W0 (blk bs [.slice y.aa acl.length y.ca, (.func (.func 69) #[.pointer (some ⟨bd, 0, none⟩)] #[]), .pointer (some ⟨y.br, 0, none⟩), .string ⟨s.p.name.toArray⟩, .int .i64 (s.p.maxd : Int), .int .i64 (s.p.burst : Int), .bool s.p.imm, .bool s.p.dig, .bool s.open_, .bool false, .int .u32 (s.exp : Int), .int .u32 (s.sn : Int), .slice none 0 0, .slice y.at_ s.told.length y.ct] 183 :: _) w := h
    have gD : Gives [OwnB (.slice ad q.2.data.length cd) q.2.data] (Bytes (.slice ad q.2.data.length cd) q.2.data) := Gives.ownO (v := .slice ad q.2.data.length cd)
    have hct := cut_bytes (l := 0) (h := q.2.data.length) gD hcl (Nat.zero_le _) (Nat.le_refl _)
    rw [show (q.2.data.drop 0).take (q.2.data.length - 0) = q.2.data by rw [List.drop_zero, Nat.sub_zero, List.take_length]] at hct
    obtain ⟨aX, cX, hcut, gX⟩ := hct
    refine W.skip (W.seq (W.block (W.sr (WL.m (WL.m (WL.n rfl ?_))))))
    refine WL.f 3 underlying183 rfl sizeOf127 rfl rfl (WL.f 1 underlying127 rfl sizeOf3 rfl rfl (WL.l isAgg3 rfl (h.cellB rfl) (WL.v (run_add rfl rfl (by omega) (by omega)) (WL.m (WL.v (run_minE (z := (q.2.data.length : Int)) rfl rfl (by omega)) (WL.a (WL.nil ?_)))))))
    refine W.region (WL.m (WL.m (WL.m (WL.v (run_convIn underlying3 underlying24 rfl (by decide) (by decide)) (WL.f 3 underlying44 rfl sizeOf26 rfl rfl (WL.l isAgg26 rfl (h.cellB rfl) (WL.m ?_)))))))
    refine WL.m (WL.v (run_cutLHV (l := 0) (h := q.2.data.length) underlying26 sizeOf5 rfl rfl rfl (by omega) (by omega) hcut) (WL.m (WL.m (WL.v (run_eqlT rfl rfl (rfl)) ?_))))
    refine WL.v (run_buildS (pl := [(0, 1), (1, 1), (2, 1), (3, 1), (4, 1), (5, 1), (6, 1), (7, 1), (8, 1), (9, 1), (10, 16), (26, 1)]) (out := [.int .i64 _, .bool _, .int .i64 _, .int .i64 _, .int .u32 _, .int .u32 _, .int .u32 _, .int .u32 _, .int .u32 _, .int .u32 _, .int .u8 _, .int .u8 _, .int .u8 _, .int .u8 _, .int .u8 _, .int .u8 _, .int .u8 _, .int .u8 _, .int .u8 _, .int .u8 _, .int .u8 _, .int .u8 _, .int .u8 _, .int .u8 _, .int .u8 _, .int .u8 _, .slice _ _ _]) underlying36 zeroValue36 (fun w => by kernel_rfl) rfl (⟨⟨_, _, rfl, rfl, by decide⟩, ⟨⟨_, _, rfl, rfl, by decide⟩, ⟨⟨_, _, rfl, rfl, by decide⟩, ⟨⟨_, _, rfl, rfl, by decide⟩, ⟨⟨_, _, rfl, rfl, by decide⟩, trivial⟩⟩⟩⟩⟩) rfl) ?_
    refine WL.e (eff_call call170 (ssay_ok (s := s) (p := ({ zPd with op := 37, tag := tag, off := 0, data := q.2.data, fin := true } : Pd)) (ap := aX) (cp := cX) (okData ht hql) (by omega) (closeSe (s := s) y hoks hKs (h.to (T := blk bs [.slice y.aa acl.length y.ca, (.func (.func 69) #[.pointer (some ⟨bd, 0, none⟩)] #[]), .pointer (some ⟨y.br, 0, none⟩), .string ⟨s.p.name.toArray⟩, .int .i64 (s.p.maxd : Int), .int .i64 (s.p.burst : Int), .bool s.p.imm, .bool s.p.dig, .bool s.open_, .bool false, .int .u32 (s.exp : Int), .int .u32 (s.sn : Int), .slice none 0 0, .slice y.at_ s.told.length y.ct] 183 :: RdrP 117 y.br s.r :: Own 1 (.slice y.aa acl.length y.ca) acl.length (acl.map fun t => Value.string ⟨t.toArray⟩) :: OwnB (.slice y.at_ s.told.length y.ct) s.told :: blk b12 (q.2.cells (.slice ad q.2.data.length cd)) 44 :: OwnB (.slice ad q.2.data.length cd) q.2.data :: DeskP 123 108 151 154 bd q.1 :: L))) (Gives.to (T := [OwnB (.slice ad q.2.data.length cd) q.2.data]) gX))) ?_
    rintro _ w h
    refine WL.nil ?_
    have ho_ := openSe h
    obtain ⟨z, hoks, hKz, h⟩ := ho_
    have h : On W0 (blk bs [.slice z.aa acl.length z.ca, (.func (.func 69) #[.pointer (some ⟨bd, 0, none⟩)] #[]), .pointer (some ⟨z.br, 0, none⟩), .string ⟨(s.say ({ zPd with op := 37, tag := tag, off := 0, data := q.2.data, fin := true } : Pd)).p.name.toArray⟩, .int .i64 ((s.say ({ zPd with op := 37, tag := tag, off := 0, data := q.2.data, fin := true } : Pd)).p.maxd : Int), .int .i64 ((s.say ({ zPd with op := 37, tag := tag, off := 0, data := q.2.data, fin := true } : Pd)).p.burst : Int), .bool (s.say ({ zPd with op := 37, tag := tag, off := 0, data := q.2.data, fin := true } : Pd)).p.imm, .bool (s.say ({ zPd with op := 37, tag := tag, off := 0, data := q.2.data, fin := true } : Pd)).p.dig, .bool (s.say ({ zPd with op := 37, tag := tag, off := 0, data := q.2.data, fin := true } : Pd)).open_, .bool false, .int .u32 ((s.say ({ zPd with op := 37, tag := tag, off := 0, data := q.2.data, fin := true } : Pd)).exp : Int), .int .u32 ((s.say ({ zPd with op := 37, tag := tag, off := 0, data := q.2.data, fin := true } : Pd)).sn : Int), .slice none 0 0, .slice z.at_ (s.say ({ zPd with op := 37, tag := tag, off := 0, data := q.2.data, fin := true } : Pd)).told.length z.ct] 183 :: _) w := h
    refine W.region (WL.m (WL.m (WL.n rfl (WL.f 3 underlying183 rfl sizeOf127 rfl rfl (WL.f 1 underlying127 rfl sizeOf3 rfl rfl (WL.l isAgg3 rfl (h.cellB rfl) (WL.v (run_addE (z := (s.p.maxd : Int)) rfl rfl (Int.zero_add _) (by omega) (by omega)) ?_)))))))
    refine WL.a (WL.nil ?_)
    have h := closeSe (s := (s.say ({ zPd with op := 37, tag := tag, off := 0, data := q.2.data, fin := true } : Pd))) z hoks hKz (h.to (T := blk bs [.slice z.aa acl.length z.ca, (.func (.func 69) #[.pointer (some ⟨bd, 0, none⟩)] #[]), .pointer (some ⟨z.br, 0, none⟩), .string ⟨(s.say ({ zPd with op := 37, tag := tag, off := 0, data := q.2.data, fin := true } : Pd)).p.name.toArray⟩, .int .i64 ((s.say ({ zPd with op := 37, tag := tag, off := 0, data := q.2.data, fin := true } : Pd)).p.maxd : Int), .int .i64 ((s.say ({ zPd with op := 37, tag := tag, off := 0, data := q.2.data, fin := true } : Pd)).p.burst : Int), .bool (s.say ({ zPd with op := 37, tag := tag, off := 0, data := q.2.data, fin := true } : Pd)).p.imm, .bool (s.say ({ zPd with op := 37, tag := tag, off := 0, data := q.2.data, fin := true } : Pd)).p.dig, .bool (s.say ({ zPd with op := 37, tag := tag, off := 0, data := q.2.data, fin := true } : Pd)).open_, .bool false, .int .u32 ((s.say ({ zPd with op := 37, tag := tag, off := 0, data := q.2.data, fin := true } : Pd)).exp : Int), .int .u32 ((s.say ({ zPd with op := 37, tag := tag, off := 0, data := q.2.data, fin := true } : Pd)).sn : Int), .slice none 0 0, .slice z.at_ (s.say ({ zPd with op := 37, tag := tag, off := 0, data := q.2.data, fin := true } : Pd)).told.length z.ct] 183 :: RdrP 117 z.br (s.say ({ zPd with op := 37, tag := tag, off := 0, data := q.2.data, fin := true } : Pd)).r :: Own 1 (.slice z.aa acl.length z.ca) acl.length (acl.map fun t => Value.string ⟨t.toArray⟩) :: OwnB (.slice z.at_ (s.say ({ zPd with op := 37, tag := tag, off := 0, data := q.2.data, fin := true } : Pd)).told.length z.ct) (s.say ({ zPd with op := 37, tag := tag, off := 0, data := q.2.data, fin := true } : Pd)).told :: blk b12 (q.2.cells (.slice ad q.2.data.length cd)) 44 :: OwnB (.slice ad q.2.data.length cd) q.2.data :: DeskP 123 108 151 154 bd q.1 :: L))
    exact ⟨1, ⟨Nat.le_refl _, _, _, _, _, .inr ⟨rfl, rfl, rfl, rfl, hne⟩, mkE_of ⟨rfl, rfl, rfl, rfl, rfl, trivial⟩, h.to⟩, by decide⟩
   have hsf : (if q.2.data = [] then s else (s.say ({ zPd with op := 37, tag := tag, off := 0, data := q.2.data, fin := true } : Pd))) = ss ∧ KK ≤ K + 4200 ∧ ss.sn = s.sn := by
     rcases hcs with ⟨_, qz, q1, q2⟩ | ⟨_, _, q1, q2, q3⟩
     · rw [if_pos (List.eq_nil_of_length_eq_zero (by omega))]
       exact ⟨q1, by omega, by rw [← q1]⟩
     · rw [if_neg q3]
       exact ⟨q1, by omega, by rw [← q1]; rfl⟩
   obtain ⟨hsf, hKK, hsn⟩ := hsf
   refine W.exit ?_
   have h := h.fetch (blk b12 (q.2.cells (.slice ad q.2.data.length cd)) 44)
   have h : On W0 (blk b12 [.int .i64 q.2.st, .int .i64 q.2.key, .int .i64 q.2.code, .slice ad q.2.data.length cd, .int .i64 q.2.info] 44 :: _) w := h
   rw [hst] at h
   refine W.region (WL.m (WL.m (WL.v (run_loadB (vs := [.int .i64 _, .int .i64 _, .int .i64 _, .slice _ _ _, .int .i64 _]) h isAgg44 sizeOf44 rfl rfl rfl) (WL.m (WL.e (eff_call call164 (srespond_ok (K := KK) (s := ss) (tag := tag) (n := q.2.data.length) ht (by omega) (by omega) (by rw [hsn]; exact ok3) (h.fetch (SeP 183 117 KK bs acl (.func (.func 69) #[.pointer (some ⟨bd, 0, none⟩)] #[]) ss)))) ?_)))))
   rintro _ w h
   refine WL.nil (bodyQ.fall (bodyQ.r0 results165 ?_))
   rw [hsf]
   exact seMono (K := KK + 4200) (by omega) h.to
  refine WT.opOf 11 [true, true, true] rfl (by kernel_rfl) (eff_alloc h zeroValue44 rfl) rfl rfl ?_
  rintro _ w ⟨b12, rfl, h⟩
  refine ⟨⟨(h.rowV (n := 8) rfl), h.cellB rfl, h.cellB rfl, trivial⟩, ?_⟩
  refine WT.e 10 [false, false, false] rfl (eff_callV (xs := [_, _]) rfl call69 (dkdo_ok (u := u) (name := s.p.name) (kind := kind) (at_ := at_) (n := n) (data := data) (key := key) (new := new) (typ := typ) (force := force) (ax := a19) (cx := c19) okn hall hcm (h.fetch (DeskP 123 108 151 154 bd u)) (Gives.ownO (v := .slice a19 data.length c19)) (by omega))) ?_
  rintro _ w ⟨dv, rfl, h⟩
  rw [← hq] at h ⊢
  have hfm := Own.form h
  obtain ⟨ad, cd, hdv, hcl, hcm2, _⟩ := hfm
  subst hdv
  refine ⟨trivial, ?_⟩
  refine WT.e 12 [] rfl (eff_storeW (vs := q.2.cells (.slice ad q.2.data.length cd)) h sizeOf44 rfl rfl rfl rfl rfl) ?_
  rintro _ w h
  refine ⟨trivial, ?_⟩
  refine WT.dn (W.sr (WL.a (WL.nil (W.seq (W.sr ?_)))))
  refine WL.f 0 underlying44 rfl sizeOf3 rfl rfl (WL.l isAgg3 rfl (h.cellB rfl) (WL.v (run_eqlT rfl rfl (hst)) (WL.nil (W.condT rfl (W.region (WL.f 3 underlying44 rfl sizeOf26 rfl rfl (WL.l isAgg26 rfl (h.cellB rfl) ?_)))))))
  refine WL.v (run_lenSlice underlying26 rfl) (WL.a (WL.nil (W.seq (W.sr (WL.a (WL.nil ?_))))))
  refine W.block ?_
  refine W.loop (fun (k : Nat) env w => k ≤ 1 ∧ ∃ (j : Env) (z : Int) (ss : Se) (KK : Nat), ((k = 0 ∧ 0 = z ∧ s = ss ∧ K = KK) ∨ (k = 1 ∧ (s.p.maxd : Int) = z ∧ (s.say ({ zPd with op := 37, tag := tag, off := 0, data := q.2.data, fin := true } : Pd)) = ss ∧ K + 4200 = KK ∧ q.2.data ≠ [])) ∧ env = mkE j [(0, .pointer (some ⟨bs, 0, none⟩)), (1, .int .u32 (tag : Int)), (12, .pointer (some ⟨b12, 0, none⟩)), (13, .int .i64 (q.2.data.length : Int)), (14, .int .i64 z)] ∧ On W0 (SeP 183 117 KK bs acl (.func (.func 69) #[.pointer (some ⟨bd, 0, none⟩)] #[]) ss :: blk b12 (q.2.cells (.slice ad q.2.data.length cd)) 44 :: OwnB (.slice ad q.2.data.length cd) q.2.data :: DeskP 123 108 151 154 bd q.1 :: L) w) (fun k => 1 - k) (0) ?_ ?_
  · have h := closeSe (s := s) x hok0 hK (h.to (T := blk bs [.slice x.aa acl.length x.ca, (.func (.func 69) #[.pointer (some ⟨bd, 0, none⟩)] #[]), .pointer (some ⟨x.br, 0, none⟩), .string ⟨s.p.name.toArray⟩, .int .i64 (s.p.maxd : Int), .int .i64 (s.p.burst : Int), .bool s.p.imm, .bool s.p.dig, .bool s.open_, .bool false, .int .u32 (s.exp : Int), .int .u32 (s.sn : Int), .slice none 0 0, .slice x.at_ s.told.length x.ct] 183 :: RdrP 117 x.br s.r :: Own 1 (.slice x.aa acl.length x.ca) acl.length (acl.map fun t => Value.string ⟨t.toArray⟩) :: OwnB (.slice x.at_ s.told.length x.ct) s.told :: blk b12 (q.2.cells (.slice ad q.2.data.length cd)) 44 :: OwnB (.slice ad q.2.data.length cd) q.2.data :: DeskP 123 108 151 154 bd q.1 :: L))
    exact ⟨by decide, _, 0, s, K, .inl ⟨rfl, rfl, rfl, rfl⟩, mkE_of ⟨rfl, rfl, rfl, rfl, rfl, trivial⟩, h⟩
  clear h hok0
  rintro k env w ⟨hk1, j, z, ss, KK, hcs, rfl, h⟩
  refine W.seq (W.sr (WL.m (WL.m (WL.v (run_lss rfl rfl) (WL.nil ?_)))))
  refine W.condIf rfl (fun c38 => ?_) (fun c38 => ?_)
  ·
   have hcs0 : k = 0 ∧ 0 = z ∧ s = ss ∧ K = KK := by
     rcases hcs with q_ | ⟨_, qz, _⟩
     · exact q_
     · omega
   obtain ⟨hk0, hz0, hss, hKK⟩ := hcs0
   clear hcs
   subst hk0
   subst hz0
   subst hss
   subst hKK
   have hne : q.2.data ≠ [] := by
     intro e
     have := congrArg List.length e
     simp only [List.length_nil] at this
     omega
   have ho_ := openSe h
   obtain ⟨y, hoks, hKs, h⟩ := ho_
   have h : On W0 (blk bs [.slice y.aa acl.length y.ca, (.func (.func 69) #[.pointer (some ⟨bd, 0, none⟩)] #[]), .pointer (some ⟨y.br, 0, none⟩), .string ⟨s.p.name.toArray⟩, .int .i64 (s.p.maxd : Int), .int .i64 (s.p.burst : Int), .bool s.p.imm, .bool s.p.dig, .bool s.open_, .bool false, .int .u32 (s.exp : Int), .int .u32 (s.sn : Int), .slice none 0 0, .slice y.at_ s.told.length y.ct] 183 :: _) w := h
   have gD : Gives [OwnB (.slice ad q.2.data.length cd) q.2.data] (Bytes (.slice ad q.2.data.length cd) q.2.data) := Gives.ownO (v := .slice ad q.2.data.length cd)
   have hct := cut_bytes (l := 0) (h := q.2.data.length) gD hcl (Nat.zero_le _) (Nat.le_refl _)
   rw [show (q.2.data.drop 0).take (q.2.data.length - 0) = q.2.data by rw [List.drop_zero, Nat.sub_zero, List.take_length]] at hct
   obtain ⟨aX, cX, hcut, gX⟩ := hct
   refine W.skip (W.seq (W.block (W.sr (WL.m (WL.m (WL.n rfl ?_))))))
   refine WL.f 3 underlying183 rfl sizeOf127 rfl rfl (WL.f 1 underlying127 rfl sizeOf3 rfl rfl (WL.l isAgg3 rfl (h.cellB rfl) (WL.v (run_add rfl rfl (by omega) (by omega)) (WL.m (WL.v (run_minE (z := (q.2.data.length : Int)) rfl rfl (by omega)) (WL.a (WL.nil ?_)))))))
   refine W.region (WL.m (WL.m (WL.m (WL.v (run_convIn underlying3 underlying24 rfl (by decide) (by decide)) (WL.f 3 underlying44 rfl sizeOf26 rfl rfl (WL.l isAgg26 rfl (h.cellB rfl) (WL.m ?_)))))))
   refine WL.m (WL.v (run_cutLHV (l := 0) (h := q.2.data.length) underlying26 sizeOf5 rfl rfl rfl (by omega) (by omega) hcut) (WL.m (WL.m (WL.v (run_eqlT rfl rfl (rfl)) ?_))))
   refine WL.v (run_buildS (pl := [(0, 1), (1, 1), (2, 1), (3, 1), (4, 1), (5, 1), (6, 1), (7, 1), (8, 1), (9, 1), (10, 16), (26, 1)]) (out := [.int .i64 _, .bool _, .int .i64 _, .int .i64 _, .int .u32 _, .int .u32 _, .int .u32 _, .int .u32 _, .int .u32 _, .int .u32 _, .int .u8 _, .int .u8 _, .int .u8 _, .int .u8 _, .int .u8 _, .int .u8 _, .int .u8 _, .int .u8 _, .int .u8 _, .int .u8 _, .int .u8 _, .int .u8 _, .int .u8 _, .int .u8 _, .int .u8 _, .int .u8 _, .slice _ _ _]) underlying36 zeroValue36 (fun w => by kernel_rfl) rfl (⟨⟨_, _, rfl, rfl, by decide⟩, ⟨⟨_, _, rfl, rfl, by decide⟩, ⟨⟨_, _, rfl, rfl, by decide⟩, ⟨⟨_, _, rfl, rfl, by decide⟩, ⟨⟨_, _, rfl, rfl, by decide⟩, trivial⟩⟩⟩⟩⟩) rfl) ?_
   refine WL.e (eff_call call170 (ssay_ok (s := s) (p := ({ zPd with op := 37, tag := tag, off := 0, data := q.2.data, fin := true } : Pd)) (ap := aX) (cp := cX) (okData ht hql) (by omega) (closeSe (s := s) y hoks hKs (h.to (T := blk bs [.slice y.aa acl.length y.ca, (.func (.func 69) #[.pointer (some ⟨bd, 0, none⟩)] #[]), .pointer (some ⟨y.br, 0, none⟩), .string ⟨s.p.name.toArray⟩, .int .i64 (s.p.maxd : Int), .int .i64 (s.p.burst : Int), .bool s.p.imm, .bool s.p.dig, .bool s.open_, .bool false, .int .u32 (s.exp : Int), .int .u32 (s.sn : Int), .slice none 0 0, .slice y.at_ s.told.length y.ct] 183 :: RdrP 117 y.br s.r :: Own 1 (.slice y.aa acl.length y.ca) acl.length (acl.map fun t => Value.string ⟨t.toArray⟩) :: OwnB (.slice y.at_ s.told.length y.ct) s.told :: blk b12 (q.2.cells (.slice ad q.2.data.length cd)) 44 :: OwnB (.slice ad q.2.data.length cd) q.2.data :: DeskP 123 108 151 154 bd q.1 :: L))) (Gives.to (T := [OwnB (.slice ad q.2.data.length cd) q.2.data]) gX))) ?_
   rintro _ w h
   refine WL.nil ?_
   have ho_ := openSe h
   obtain ⟨z, hoks, hKz, h⟩ := ho_
   have h : On W0 (blk bs [.slice z.aa acl.length z.ca, (.func (.func 69) #[.pointer (some ⟨bd, 0, none⟩)] #[]), .pointer (some ⟨z.br, 0, none⟩), .string ⟨(s.say ({ zPd with op := 37, tag := tag, off := 0, data := q.2.data, fin := true } : Pd)).p.name.toArray⟩, .int .i64 ((s.say ({ zPd with op := 37, tag := tag, off := 0, data := q.2.data, fin := true } : Pd)).p.maxd : Int), .int .i64 ((s.say ({ zPd with op := 37, tag := tag, off := 0, data := q.2.data, fin := true } : Pd)).p.burst : Int), .bool (s.say ({ zPd with op := 37, tag := tag, off := 0, data := q.2.data, fin := true } : Pd)).p.imm, .bool (s.say ({ zPd with op := 37, tag := tag, off := 0, data := q.2.data, fin := true } : Pd)).p.dig, .bool (s.say ({ zPd with op := 37, tag := tag, off := 0, data := q.2.data, fin := true } : Pd)).open_, .bool false, .int .u32 ((s.say ({ zPd with op := 37, tag := tag, off := 0, data := q.2.data, fin := true } : Pd)).exp : Int), .int .u32 ((s.say ({ zPd with op := 37, tag := tag, off := 0, data := q.2.data, fin := true } : Pd)).sn : Int), .slice none 0 0, .slice z.at_ (s.say ({ zPd with op := 37, tag := tag, off := 0, data := q.2.data, fin := true } : Pd)).told.length z.ct] 183 :: _) w := h
   refine W.region (WL.m (WL.m (WL.n rfl (WL.f 3 underlying183 rfl sizeOf127 rfl rfl (WL.f 1 underlying127 rfl sizeOf3 rfl rfl (WL.l isAgg3 rfl (h.cellB rfl) (WL.v (run_addE (z := (s.p.maxd : Int)) rfl rfl (Int.zero_add _) (by omega) (by omega)) ?_)))))))
   refine WL.a (WL.nil ?_)
   have h := closeSe (s := (s.say ({ zPd with op := 37, tag := tag, off := 0, data := q.2.data, fin := true } : Pd))) z hoks hKz (h.to (T := blk bs [.slice z.aa acl.length z.ca, (.func (.func 69) #[.pointer (some ⟨bd, 0, none⟩)] #[]), .pointer (some ⟨z.br, 0, none⟩), .string ⟨(s.say ({ zPd with op := 37, tag := tag, off := 0, data := q.2.data, fin := true } : Pd)).p.name.toArray⟩, .int .i64 ((s.say ({ zPd with op := 37, tag := tag, off := 0, data := q.2.data, fin := true } : Pd)).p.maxd : Int), .int .i64 ((s.say ({ zPd with op := 37, tag := tag, off := 0, data := q.2.data, fin := true } : Pd)).p.burst : Int), .bool (s.say ({ zPd with op := 37, tag := tag, off := 0, data := q.2.data, fin := true } : Pd)).p.imm, .bool (s.say ({ zPd with op := 37, tag := tag, off := 0, data := q.2.data, fin := true } : Pd)).p.dig, .bool (s.say ({ zPd with op := 37, tag := tag, off := 0, data := q.2.data, fin := true } : Pd)).open_, .bool false, .int .u32 ((s.say ({ zPd with op := 37, tag := tag, off := 0, data := q.2.data, fin := true } : Pd)).exp : Int), .int .u32 ((s.say ({ zPd with op := 37, tag := tag, off := 0, data := q.2.data, fin := true } : Pd)).sn : Int), .slice none 0 0, .slice z.at_ (s.say ({ zPd with op := 37, tag := tag, off := 0, data := q.2.data, fin := true } : Pd)).told.length z.ct] 183 :: RdrP 117 z.br (s.say ({ zPd with op := 37, tag := tag, off := 0, data := q.2.data, fin := true } : Pd)).r :: Own 1 (.slice z.aa acl.length z.ca) acl.length (acl.map fun t => Value.string ⟨t.toArray⟩) :: OwnB (.slice z.at_ (s.say ({ zPd with op := 37, tag := tag, off := 0, data := q.2.data, fin := true } : Pd)).told.length z.ct) (s.say ({ zPd with op := 37, tag := tag, off := 0, data := q.2.data, fin := true } : Pd)).told :: blk b12 (q.2.cells (.slice ad q.2.data.length cd)) 44 :: OwnB (.slice ad q.2.data.length cd) q.2.data :: DeskP 123 108 151 154 bd q.1 :: L))
   exact ⟨1, ⟨Nat.le_refl _, _, _, _, _, .inr ⟨rfl, rfl, rfl, rfl, hne⟩, mkE_of ⟨rfl, rfl, rfl, rfl, rfl, trivial⟩, h.to⟩, by decide⟩
  have hsf : (if q.2.data = [] then s else (s.say ({ zPd with op := 37, tag := tag, off := 0, data := q.2.data, fin := true } : Pd))) = ss ∧ KK ≤ K + 4200 ∧ ss.sn = s.sn := by
    rcases hcs with ⟨_, qz, q1, q2⟩ | ⟨_, _, q1, q2, q3⟩
    · rw [if_pos (List.eq_nil_of_length_eq_zero (by omega))]
      exact ⟨q1, by omega, by rw [← q1]⟩
    · rw [if_neg q3]
      exact ⟨q1, by omega, by rw [← q1]; rfl⟩
  obtain ⟨hsf, hKK, hsn⟩ := hsf
  refine W.exit ?_
  have h := h.fetch (blk b12 (q.2.cells (.slice ad q.2.data.length cd)) 44)
  have h : On W0 (blk b12 [.int .i64 q.2.st, .int .i64 q.2.key, .int .i64 q.2.code, .slice ad q.2.data.length cd, .int .i64 q.2.info] 44 :: _) w := h
  rw [hst] at h
  refine W.region (WL.m (WL.m (WL.v (run_loadB (vs := [.int .i64 _, .int .i64 _, .int .i64 _, .slice _ _ _, .int .i64 _]) h isAgg44 sizeOf44 rfl rfl rfl) (WL.m (WL.e (eff_call call164 (srespond_ok (K := KK) (s := ss) (tag := tag) (n := q.2.data.length) ht (by omega) (by omega) (by rw [hsn]; exact ok3) (h.fetch (SeP 183 117 KK bs acl (.func (.func 69) #[.pointer (some ⟨bd, 0, none⟩)] #[]) ss)))) ?_)))))
  rintro _ w h
  refine WL.nil (bodyQ.fall (bodyQ.r0 results165 ?_))
  rw [hsf]
  exact seMono (K := KK + 4200) (by omega) h.to
end Go.Proofs.YtjfmjbmkkpkppaaGreatDoor
namespace Go.Proofs.YtjfmjbmkkpkppaaGreatDoor
open Go.Proofs.Tryz
open Go Go.Sl Go.Sl.BitM Go.Sl.SpM Go.Sl.RsM Go.Sl.ByM Go.Sl.UnM Go.Sl.TpM
set_option linter.unusedVariables false
set_option linter.unusedSimpArgs false
set_option maxHeartbeats 1000000
set_option maxRecDepth 8000
variable {W0 w : World} {L F : List HProp}
theorem decC_some {b : List UInt8} (hl : b.length = 16) {kind at_ n : Int} (h : decC b = some ⟨kind, at_, n, [], 0, 0, 0, false⟩) (hk : kind = 2 ∨ kind = 3) : ((kind = 2 ∧ b.getD 0 0 = 136) ∨ (kind = 3 ∧ b.getD 0 0 = 138)) ∧ (b.getD 1 0 = 0 ∧ b.getD 14 0 = 0 ∧ b.getD 15 0 = 0) ∧ beV ((b.drop 2).take 8) ≤ 4611686018427387904 ∧ at_ = ((beV ((b.drop 2).take 8) : Nat) : Int) ∧ n = ((beV ((b.drop 10).take 4) : Nat) : Int) := by
  unfold decC at h
  cases hf : codesL.find? (fun x => decide (x.op = b.getD 0 0) && (!x.par || decide (x.sub = b.getD 1 0))) with
  | none => rw [hf] at h; cases h
  | some x =>
    rw [hf] at h
    simp only [Option.bind_some] at h
    have hm := List.mem_of_find?_eq_some hf
    have hp := List.find?_some hf
    simp only [Bool.and_eq_true, decide_eq_true_eq] at hp
    split at h
    · rename_i hc
      simp only [Bool.and_eq_true, decide_eq_true_eq] at hc
      simp only [Option.some.injEq, Cm.mk.injEq] at h
      obtain ⟨h1, h2, h3, _⟩ := h
      obtain ⟨⟨⟨⟨_, _⟩, hz1⟩, hz2⟩, hat⟩ := hc
      have e14 : b.getD 14 0 = 0 ∧ b.getD 15 0 = 0 := by
        have g0 : ((b.drop 14).take 2)[0]? = some (0 : UInt8) := by rw [hz2]; rfl
        have g1 : ((b.drop 14).take 2)[1]? = some (0 : UInt8) := by rw [hz2]; rfl
        simp only [List.getElem?_take, List.getElem?_drop] at g0 g1
        constructor
        · rw [List.getD_eq_getElem?_getD]; simp at g0; rw [g0]; rfl
        · rw [List.getD_eq_getElem?_getD]; simp at g1; rw [g1]; rfl
      refine ⟨?_, ⟨hz1, e14.1, e14.2⟩, hat, h2.symm, h3.symm⟩
      simp only [codesL, List.mem_cons, List.not_mem_nil, or_false] at hm
      rcases hm with rfl | rfl | rfl | rfl | rfl | rfl | rfl | rfl | rfl | rfl | rfl | rfl | rfl | rfl | rfl | rfl | rfl <;> simp only at h1 hp <;> first
        | (exfalso; omega)
        | exact .inl ⟨h1.symm, hp.1.symm⟩
        | exact .inr ⟨h1.symm, hp.1.symm⟩
    · cases h
theorem sdec_ok {bb ob cb : Nat} {bs : List UInt8} {kind at_ n : Int} (hl : bs.length = 16) (hm : decC bs = some ⟨kind, at_, n, [], 0, 0, 0, false⟩) (hk : kind = 2 ∨ kind = 3) (h : On W0 L w) (C : Gives L (Bytes (.slice (some ⟨bb, ob, none⟩) 16 cb) bs)) : Calls Tryz.prog 14 #[.slice (some ⟨bb, ob, none⟩) 16 cb] w (Ret fun v w' => v = .tuple #[.agg #[.int .i64 kind, .int .i64 at_, .int .i64 n, .slice none 0 0, .int .u64 0, .int .u64 0, .int .i64 0, .bool false], .agg #[.int .i64 0, .int .i64 0, .int .i64 0, .slice none 0 0, .int .i64 0], .bool true] ∧ On W0 L w') := by
  obtain ⟨hop, hz, hat, e1, e2⟩ := decC_some hl hm hk
  rcases hop with ⟨hk2, h0⟩ | ⟨hk2, h0⟩
  · subst hk2; subst e1; subst e2; have q := dec_2_ok (cb := cb) hl h0 hz hat h (by rw [hl]; exact C); rw [hl] at q; exact q
  · subst hk2; subst e1; subst e2; have q := dec_3_ok (cb := cb) hl h0 hz hat h (by rw [hl]; exact C); rw [hl] at q; exact q
theorem okCmZ {kind at_ n : Int} : okCm (⟨kind, at_, n, [], 0, 0, 0, false⟩ : Cm) := ⟨⟨(show (0 : Int) ≤ 0 by decide), (show (0 : Int) < 18446744073709551616 by decide)⟩, (show (0 : Int) ≤ 0 by decide), (show (0 : Int) < 18446744073709551616 by decide)⟩
theorem secommand_ok {bs bd K : Nat} {acl : List Str} {s s' : Se} {u u' : Un} {p : Pd} {ap : Option Addr} {cp : Nat} {kind at_ n : Int} (hcd : p.cdb.length = 16) (hdc : decC p.cdb = some (⟨kind, at_, n, [], 0, 0, 0, false⟩ : Cm)) (hkk : kind = 2 ∨ kind = 3) (hlen : (p.data.length : Int) = outN (⟨kind, at_, n, [], 0, 0, 0, false⟩ : Cm)) (himm : outN (⟨kind, at_, n, [], 0, 0, 0, false⟩ : Cm) = 0 ∨ s.p.imm = true) (ht : p.tag < 4294967296) (hm : s.done u p.tag (⟨kind, at_, n, [], 0, 0, 0, false⟩ : Cm) p.data = some (s', u')) (hK0 : K ≤ 90000) (h : On W0 (SeP 183 117 K bs acl (.func (.func 69) #[.pointer (some ⟨bd, 0, none⟩)] #[]) s :: DeskP 123 108 151 154 bd u :: L) w) (C : Gives L (Bytes (.slice ap p.data.length cp) p.data)) : Calls Tryz.prog 144 #[.pointer (some ⟨bs, 0, none⟩), .agg (Pd.cells p (.slice ap p.data.length cp)).toArray] w (Ret fun v w' => On W0 (SeP 183 117 (K + 8400) bs acl (.func (.func 69) #[.pointer (some ⟨bd, 0, none⟩)] #[]) s' :: DeskP 123 108 151 154 bd u' :: L) w') := by
  refine enter func144 rfl ntmps144 rfl ?_
  have hmx := maxLen_eq
  have ho_ := openSe h
  obtain ⟨x, hoks, hKs, h⟩ := ho_
  have h : On W0 (blk bs [.slice x.aa acl.length x.ca, (.func (.func 69) #[.pointer (some ⟨bd, 0, none⟩)] #[]), .pointer (some ⟨x.br, 0, none⟩), .string ⟨s.p.name.toArray⟩, .int .i64 (s.p.maxd : Int), .int .i64 (s.p.burst : Int), .bool s.p.imm, .bool s.p.dig, .bool s.open_, .bool false, .int .u32 (s.exp : Int), .int .u32 (s.sn : Int), .slice none 0 0, .slice x.at_ s.told.length x.ct] 183 :: _) w := h
  refine W.sr (WL.e (eff_box (v := .agg (Pd.cells p (.slice ap p.data.length cp)).toArray) (l := Pd.cells p (.slice ap p.data.length cp)) h rfl rfl) ?_)
  rintro _ w ⟨b3, rfl, h⟩
  refine WL.nil (W.sr (WL.f 10 underlying36 rfl sizeOf34 rfl rfl (WL.v (run_cutArr underlying34 sizeOf5 rfl) ?_)))
  refine WL.e (eff_call call14 (sdec_ok (bb := b3) (ob := 0 + 10) (cb := 16) (bs := p.cdb) hcd hdc hkk h (by have gp := Gives.part (L := blk b3 (Pd.cells p (.slice ap p.data.length cp)) 36 :: blk bs [.slice x.aa acl.length x.ca, (.func (.func 69) #[.pointer (some ⟨bd, 0, none⟩)] #[]), .pointer (some ⟨x.br, 0, none⟩), .string ⟨s.p.name.toArray⟩, .int .i64 (s.p.maxd : Int), .int .i64 (s.p.burst : Int), .bool s.p.imm, .bool s.p.dig, .bool s.open_, .bool false, .int .u32 (s.exp : Int), .int .u32 (s.sn : Int), .slice none 0 0, .slice x.at_ s.told.length x.ct] 183 :: RdrP 117 x.br s.r :: Own 1 (.slice x.aa acl.length x.ca) acl.length (acl.map fun t => Value.string ⟨t.toArray⟩) :: OwnB (.slice x.at_ s.told.length x.ct) s.told :: DeskP 123 108 151 154 bd u :: L) (b := b3) (o := 0 + 10) (n := 16) (cells_cdb (dv := (.slice ap p.data.length cp)) hcd) (by rw [cells_len hcd]; decide) (by decide); rw [← hcd] at gp ⊢; exact gp))) ?_
  rintro _ w ⟨rfl, h⟩
  refine WL.m (WL.v (run_extract rfl rfl) (WL.v (run_extract rfl rfl) (WL.v (run_extract rfl rfl) (WL.e (eff_alloc h zeroValue29 rfl) ?_))))
  rintro _ w ⟨b4, rfl, h⟩
  refine WL.e (eff_alloc h zeroValue44 rfl) ?_
  rintro _ w ⟨b5, rfl, h⟩
  refine WL.e (eff_storeW (vs := [.int .i64 kind, .int .i64 at_, .int .i64 n, .slice none 0 0, .int .u64 0, .int .u64 0, .int .i64 0, .bool false]) h sizeOf29 rfl rfl rfl rfl rfl) ?_
  rintro _ w h
  refine WL.e (eff_storeW (vs := [.int .i64 0, .int .i64 0, .int .i64 0, .slice none 0 0, .int .i64 0]) h sizeOf44 rfl rfl rfl rfl rfl) ?_
  rintro _ w h
  refine WL.a (WL.nil (W.sr (WL.v (run_loadB (vs := [.int .i64 _, .int .i64 _, .int .i64 _, .slice _ _ _, .int .u64 _, .int .u64 _, .int .i64 _, .bool _]) h isAgg29 sizeOf29 rfl rfl rfl) (WL.e (eff_call call16 (cout_n_ok (kind := kind) (at_ := at_) (n := n) (key := 0) (new := 0) (typ := 0) (force := false) (data := []) (ax := none) (cx := 0) h)) ?_))))
  rintro _ w ⟨rfl, h⟩
  refine WL.a (WL.nil (W.sr (WL.e (eff_call call49 (wrong_ok h)) ?_)))
  rintro _ w ⟨rfl, h⟩
  refine WL.e (eff_alloc h zeroValue44 rfl) ?_
  rintro _ w ⟨b8, rfl, h⟩
  refine WL.e (eff_storeW (vs := [.int .i64 _, .int .i64 _, .int .i64 _, .slice _ _ _, .int .i64 _]) h sizeOf44 rfl rfl rfl rfl rfl) ?_
  rintro _ w h
  refine WL.nil (W.block (W.sr (WL.m (WL.v (run_not rfl) (WL.a (WL.nil ?_))))))
  refine W.condF rfl (W.sr (WL.m (WL.v (run_eql rfl rfl) (WL.a (WL.nil ?_)))))
  refine W.condIf rfl (fun c9 => ?_) (fun c9 => ?_)
  ·
   have hp0 : p.data = [] := List.eq_nil_of_length_eq_zero (by omega)
   rw [hp0] at hm
   refine W.region (WL.m (WL.f 4 underlying36 rfl sizeOf24 rfl rfl (WL.l isAgg24 rfl (h.cellB rfl) (WL.v (run_loadB (vs := [.int .i64 _, .int .i64 _, .int .i64 _, .slice _ _ _, .int .u64 _, .int .u64 _, .int .i64 _, .bool _]) h isAgg29 sizeOf29 rfl rfl rfl) ?_))))
   refine WL.e (eff_call call165 (sedone_ok (kind := kind) (at_ := at_) (n := n) (key := 0) (new := 0) (typ := 0) (force := false) (cdat := []) (ac_ := none) (nc_ := 0) (cc_ := 0) (data := []) (ax := none) (cx := 0) hkk okCmZ ht hm hK0 (closeSe (s := s) x hoks hKs (h.to (T := blk bs [.slice x.aa acl.length x.ca, (.func (.func 69) #[.pointer (some ⟨bd, 0, none⟩)] #[]), .pointer (some ⟨x.br, 0, none⟩), .string ⟨s.p.name.toArray⟩, .int .i64 (s.p.maxd : Int), .int .i64 (s.p.burst : Int), .bool s.p.imm, .bool s.p.dig, .bool s.open_, .bool false, .int .u32 (s.exp : Int), .int .u32 (s.sn : Int), .slice none 0 0, .slice x.at_ s.told.length x.ct] 183 :: RdrP 117 x.br s.r :: Own 1 (.slice x.aa acl.length x.ca) acl.length (acl.map fun t => Value.string ⟨t.toArray⟩) :: OwnB (.slice x.at_ s.told.length x.ct) s.told :: DeskP 123 108 151 154 bd u :: L))) Gives.nilB)) ?_
   rintro _ w h
   refine WL.nil (bodyQ.fall (bodyQ.r0 results144 ?_))
   exact h
  have hiq : s.p.imm = true := himm.resolve_left c9
  refine W.sr (WL.f 26 underlying36 rfl sizeOf26 rfl rfl (WL.l isAgg26 rfl (h.cellB (cells_data hcd)) (WL.v (run_lenSlice underlying26 rfl) (WL.v (run_gtrT rfl rfl (by omega)) (WL.m (WL.m ?_))))))
  refine WL.n rfl (WL.f 3 underlying183 rfl sizeOf127 rfl rfl (WL.f 3 underlying127 rfl sizeOf4 rfl rfl (WL.l isAgg4 rfl (h.cellB (v := .bool true) (by rw [← hiq]; rfl)) (WL.v (run_not rfl) (WL.v (run_pickT rfl) (WL.m (WL.f 26 underlying36 rfl sizeOf26 rfl rfl ?_)))))))
  refine WL.l isAgg26 rfl (h.cellB (cells_data hcd)) (WL.v (run_lenSlice underlying26 rfl) (WL.m (WL.v (run_gtrF rfl rfl (by omega)) (WL.v (run_pickF rfl) (WL.a (WL.nil (W.condF rfl ?_)))))))
  refine W.sr (WL.f 26 underlying36 rfl sizeOf26 rfl rfl (WL.l isAgg26 rfl (h.cellB (cells_data hcd)) (WL.v (run_lenSlice underlying26 rfl) (WL.m (WL.v (run_eqlT rfl rfl (by omega)) (WL.a ?_))))))
  refine WL.nil (W.condT rfl (W.region (WL.m (WL.f 4 underlying36 rfl sizeOf24 rfl rfl (WL.l isAgg24 rfl (h.cellB rfl) (WL.v (run_loadB (vs := [.int .i64 _, .int .i64 _, .int .i64 _, .slice _ _ _, .int .u64 _, .int .u64 _, .int .i64 _, .bool _]) h isAgg29 sizeOf29 rfl rfl rfl) (WL.f 26 underlying36 rfl sizeOf26 rfl rfl ?_)))))))
  refine WL.l isAgg26 rfl (h.cellB (cells_data hcd)) ?_
  refine WL.e (eff_call call165 (sedone_ok (kind := kind) (at_ := at_) (n := n) (key := 0) (new := 0) (typ := 0) (force := false) (cdat := []) (ac_ := none) (nc_ := 0) (cc_ := 0) (data := p.data) (ax := ap) (cx := cp) hkk okCmZ ht hm hK0 (closeSe (s := s) x hoks hKs (h.to (T := blk bs [.slice x.aa acl.length x.ca, (.func (.func 69) #[.pointer (some ⟨bd, 0, none⟩)] #[]), .pointer (some ⟨x.br, 0, none⟩), .string ⟨s.p.name.toArray⟩, .int .i64 (s.p.maxd : Int), .int .i64 (s.p.burst : Int), .bool s.p.imm, .bool s.p.dig, .bool s.open_, .bool false, .int .u32 (s.exp : Int), .int .u32 (s.sn : Int), .slice none 0 0, .slice x.at_ s.told.length x.ct] 183 :: RdrP 117 x.br s.r :: Own 1 (.slice x.aa acl.length x.ca) acl.length (acl.map fun t => Value.string ⟨t.toArray⟩) :: OwnB (.slice x.at_ s.told.length x.ct) s.told :: DeskP 123 108 151 154 bd u :: L))) C)) ?_
  rintro _ w h
  refine WL.nil (bodyQ.fall (bodyQ.r0 results144 ?_))
  exact h
theorem setake_some {s s' : Se} {u u' : Un} {p : Pd} (h : Se.take s u p = some (s', u')) : p.op = 1 ∧ p.sn = s.exp ∧ ∃ kind at_ n : Int, decC p.cdb = some (⟨kind, at_, n, [], 0, 0, 0, false⟩ : Cm) ∧ (kind = 2 ∨ kind = 3) ∧ (p.data.length : Int) = outN (⟨kind, at_, n, [], 0, 0, 0, false⟩ : Cm) ∧ (outN (⟨kind, at_, n, [], 0, 0, 0, false⟩ : Cm) = 0 ∨ s.p.imm = true) ∧ Se.done ({ s with exp := (s.exp + 1) % 4294967296 } : Se) u p.tag (⟨kind, at_, n, [], 0, 0, 0, false⟩ : Cm) p.data = some (s', u') := by
  unfold Se.take at h
  split at h
  · rename_i h1
    cases hd : decC p.cdb with
    | none => rw [hd] at h; cases h
    | some c =>
      rw [hd] at h
      simp only [Option.bind_some] at h
      split at h
      · rename_i h2
        have hc : c = ⟨c.kind, c.at_, c.n, [], 0, 0, 0, false⟩ := by
          unfold decC at hd
          cases hf : codesL.find? (fun x => decide (x.op = p.cdb.getD 0 0) && (!x.par || decide (x.sub = p.cdb.getD 1 0))) with
          | none => rw [hf] at hd; cases hd
          | some x =>
            rw [hf] at hd
            simp only [Option.bind_some] at hd
            split at hd
            · cases hd; rfl
            · cases hd
        refine ⟨h1.1, h1.2, c.kind, c.at_, c.n, by rw [← hc], h2.1, by rw [← hc]; exact h2.2.1, by rw [← hc]; exact h2.2.2, by rw [← hc]; exact h⟩
      · cases h
  · cases h
theorem setake_ok {bs bd K : Nat} {acl : List Str} {s s' : Se} {u u' : Un} {p : Pd} {ap : Option Addr} {cp : Nat} (hcd : p.cdb.length = 16) (hnu : ∀ v ∈ nums p, v < 4294967296) (hm : Se.take s u p = some (s', u')) (hK0 : K ≤ 90000) (h : On W0 (SeP 183 117 K bs acl (.func (.func 69) #[.pointer (some ⟨bd, 0, none⟩)] #[]) s :: DeskP 123 108 151 154 bd u :: L) w) (C : Gives L (Bytes (.slice ap p.data.length cp) p.data)) : Calls Tryz.prog 133 #[.pointer (some ⟨bs, 0, none⟩), .agg (Pd.cells p (.slice ap p.data.length cp)).toArray] w (Ret fun v w' => On W0 (SeP 183 117 (K + 8400) bs acl (.func (.func 69) #[.pointer (some ⟨bd, 0, none⟩)] #[]) s' :: DeskP 123 108 151 154 bd u' :: L) w') := by
  refine enter func133 rfl ntmps133 rfl ?_
  have hmx := maxLen_eq
  have hts := setake_some hm
  obtain ⟨hop, hsn, kind, at_, n, hdc, hkk, hlen, himm, hdn⟩ := hts
  have ho_ := openSe h
  obtain ⟨x, hoks, hKs, h⟩ := ho_
  have h : On W0 (blk bs [.slice x.aa acl.length x.ca, (.func (.func 69) #[.pointer (some ⟨bd, 0, none⟩)] #[]), .pointer (some ⟨x.br, 0, none⟩), .string ⟨s.p.name.toArray⟩, .int .i64 (s.p.maxd : Int), .int .i64 (s.p.burst : Int), .bool s.p.imm, .bool s.p.dig, .bool s.open_, .bool false, .int .u32 (s.exp : Int), .int .u32 (s.sn : Int), .slice none 0 0, .slice x.at_ s.told.length x.ct] 183 :: _) w := h
  obtain ⟨ok1, ok2, ok3⟩ := hoks
  refine W.sr (WL.e (eff_box (v := .agg (Pd.cells p (.slice ap p.data.length cp)).toArray) (l := Pd.cells p (.slice ap p.data.length cp)) h rfl rfl) ?_)
  rintro _ w ⟨b3, rfl, h⟩
  refine WL.nil (W.sr (WL.f 0 underlying36 rfl sizeOf3 rfl rfl (WL.l isAgg3 rfl (h.cellB rfl) (WL.nil (W.block (W.seq ?_))))))
  refine W.region (WL.v (run_eqlT rfl rfl (by omega)) (WL.a (WL.nil (W.condT rfl (W.seq ?_)))))
  refine W.draw Tryz.follows h (fun w h => ?_)
  refine WT.f 0 5 rfl underlying36 rfl sizeOf24 rfl rfl (WT.l 1 rfl isAgg24 rfl (h.cellB rfl) (WT.m 2 rfl (WT.n 3 rfl rfl (WT.f 4 10 rfl underlying183 rfl sizeOf24 rfl rfl (WT.l 5 rfl isAgg24 rfl (h.cellB rfl) (WT.p 6 rfl (fun w' => run_eqlT rfl rfl (by omega)) (WT.dn ?_)))))))
  refine W.condT rfl (W.sr (WL.m (WL.n rfl (WL.f 10 underlying183 rfl sizeOf24 rfl rfl (WL.l isAgg24 rfl (h.cellB rfl) (WL.v (run_addU32 (m := s.exp) (n := 1) rfl rfl) ?_))))))
  refine WL.n rfl (WL.f 10 underlying183 rfl sizeOf24 rfl rfl (WL.e (eff_store (v := .int .u32 (((s.exp + 1) % 4294967296 : Nat) : Int)) h sizeOf24 rfl rfl rfl rfl rfl) ?_))
  rintro _ w h
  try simp only [Nat.zero_add, Nat.add_zero, List.set_cons_zero, List.set_cons_succ] at h
  refine WL.nil (W.region (WL.m (WL.v (run_loadB (vs := Pd.cells p (.slice ap p.data.length cp)) h isAgg36 sizeOf36 rfl (List.take_of_length_le (Nat.le_of_eq (cells_len hcd))) (cells_len hcd)) ?_)))
  refine WL.e (eff_call call144 (secommand_ok (s := ({ s with exp := (s.exp + 1) % 4294967296 } : Se)) (ap := ap) (cp := cp) hcd hdc hkk hlen himm (hnu _ (by simp [nums])) hdn hK0 (closeSe (s := ({ s with exp := (s.exp + 1) % 4294967296 } : Se)) x ⟨ok1, (show (s.exp + 1) % 4294967296 < _ by omega), ok3⟩ hKs (h.to (T := blk bs [.slice x.aa acl.length x.ca, (.func (.func 69) #[.pointer (some ⟨bd, 0, none⟩)] #[]), .pointer (some ⟨x.br, 0, none⟩), .string ⟨s.p.name.toArray⟩, .int .i64 (s.p.maxd : Int), .int .i64 (s.p.burst : Int), .bool s.p.imm, .bool s.p.dig, .bool s.open_, .bool false, .int .u32 (((s.exp + 1) % 4294967296 : Nat) : Int), .int .u32 (s.sn : Int), .slice none 0 0, .slice x.at_ s.told.length x.ct] 183 :: RdrP 117 x.br s.r :: Own 1 (.slice x.aa acl.length x.ca) acl.length (acl.map fun t => Value.string ⟨t.toArray⟩) :: OwnB (.slice x.at_ s.told.length x.ct) s.told :: DeskP 123 108 151 154 bd u :: L))) C)) ?_
  rintro _ w h
  refine WL.nil (bodyQ.fall (bodyQ.r0 results133 ?_))
  exact h
end Go.Proofs.YtjfmjbmkkpkppaaGreatDoor
namespace Go.Proofs.YtjfmjbmkkpkppaaGreatDoor
open Go.Proofs.Tryz
open Go Go.Sl Go.Sl.BitM Go.Sl.SpM Go.Sl.RsM Go.Sl.ByM Go.Sl.UnM Go.Sl.TpM
set_option linter.unusedVariables false
set_option linter.unusedSimpArgs false
set_option maxHeartbeats 1000000
set_option maxRecDepth 8000
variable {W0 w : World} {L F : List HProp}
theorem selogin_some {acl : List Str} {s s' : Se} {p : Pd} (h : Se.login acl s p = some s') : p.op = 3 ∧ ∃ l q b, decTx p.data = some l ∧ l.length ≤ 1000 ∧ negB acl l = some q ∧ encT' q.2 = some b ∧ s' = ({ (Se.sayer ({ s with p := q.1, exp := (p.sn + 1) % 4294967296 } : Se) 35 ({ zPd with tag := p.tag, st := 0, data := b, fin := true } : Pd)) with open_ := true } : Se) := by
  unfold Se.login at h
  split at h
  · rename_i h1
    cases hd : decTx p.data with
    | none => rw [hd] at h; cases h
    | some l =>
      rw [hd] at h
      simp only [Option.bind_some] at h
      split at h
      · cases h
      · rename_i h2
        cases hn : negB acl l with
        | none => rw [hn] at h; cases h
        | some q =>
          rw [hn] at h
          simp only [Option.bind_some] at h
          cases he : encT' q.2 with
          | none => rw [he] at h; cases h
          | some b => rw [he] at h; cases h; exact ⟨h1, l, q, b, rfl, by omega, hn, he, rfl⟩
  · cases h
theorem negK_len : ∀ {l : List Pr} {p q : Pm} {o1 o2 : List Pr}, negK p o1 l = some (q, o2) → o2.length ≤ o1.length + l.length
  | [], p, q, o1, o2, h => by cases h; exact Nat.le_refl _
  | x :: l, p, q, o1, o2, h => by
    unfold negK at h
    cases hk : keyB p x with
    | none => rw [hk] at h; cases h
    | some z =>
      rw [hk] at h
      simp only [Option.bind_some] at h
      obtain ⟨z1, z2⟩ := z
      have h1 := keyB_ok hk
      have h2 := negK_len h
      dsimp only at h2
      rw [List.length_append] at h2
      rw [List.length_cons]; omega
theorem negB_len {acl : List Str} {l : List Pr} {q : Pm × List Pr} (h : negB acl l = some q) : q.2.length ≤ l.length := by
  unfold negB at h
  cases hk : negK { ours with name := [], dig := false } [] l with
  | none => rw [hk] at h; cases h
  | some z =>
    rw [hk] at h
    simp only [Option.bind_some] at h
    split at h
    · cases h
      have := negK_len hk
      simpa using this
    · cases h
theorem okLog35 {tag sn : Nat} {b : Str} (ht : tag < 4294967296) (hs : sn < 4294967296) (hb : b.length ≤ 4096) : okPd ({ ({ zPd with tag := tag, st := 0, data := b, fin := true } : Pd) with op := 35, sn := sn } : Pd) := by
  refine ⟨⟨rfl, rfl, (show (0 : Nat) < 128 by decide), (show (0 : Nat) < 256 by decide)⟩, hb, ?_⟩
  intro v hv
  simp only [nums, zPd, List.mem_cons, List.not_mem_nil, or_false] at hv
  rcases hv with rfl | rfl | rfl | rfl | rfl | rfl <;> first | exact ht | exact hs | decide
theorem log35_lit {tag : Nat} {b : Str} {ap : Option Addr} {cp : Nat} : (.agg #[.int .i64 0, .bool true, .int .i64 0, .int .i64 0, .int .u32 (tag : Int), .int .u32 0, .int .u32 0, .int .u32 0, .int .u32 0, .int .u32 0, .int .u8 0, .int .u8 0, .int .u8 0, .int .u8 0, .int .u8 0, .int .u8 0, .int .u8 0, .int .u8 0, .int .u8 0, .int .u8 0, .int .u8 0, .int .u8 0, .int .u8 0, .int .u8 0, .int .u8 0, .int .u8 0, .slice ap b.length cp] : Value) = .agg (Pd.cells ({ zPd with tag := tag, st := 0, data := b, fin := true } : Pd) (.slice ap b.length cp)).toArray := rfl
theorem log35_ok {fd : Fn} {fa fc : Array Value} {acl : List Str} {bs K : Nat} {s : Se} {b2 b3 tag : Nat} {b : Str} {ap : Option Addr} {cp : Nat} (ht : tag < 4294967296) (hs : s.sn < 4294967296) (hb : b.length ≤ 4096) (hK0 : K ≤ 100000) (h : On W0 (SeP 183 117 K bs acl (.func fd fa fc) s :: blk b2 [.pointer (some ⟨bs, 0, none⟩)] 129 :: blk b3 [.int .i64 35] 3 :: L) w) (C : Gives L (Bytes (.slice ap b.length cp) b)) : Calls Tryz.prog 169 #[.agg #[.int .i64 0, .bool true, .int .i64 0, .int .i64 0, .int .u32 (tag : Int), .int .u32 0, .int .u32 0, .int .u32 0, .int .u32 0, .int .u32 0, .int .u8 0, .int .u8 0, .int .u8 0, .int .u8 0, .int .u8 0, .int .u8 0, .int .u8 0, .int .u8 0, .int .u8 0, .int .u8 0, .int .u8 0, .int .u8 0, .int .u8 0, .int .u8 0, .int .u8 0, .int .u8 0, .slice ap b.length cp], .pointer (some ⟨b3, 0, none⟩), .pointer (some ⟨b2, 0, none⟩)] w (Ret fun v w' => On W0 (SeP 183 117 (K + 4200) bs acl (.func fd fa fc) (s.sayer 35 ({ zPd with tag := tag, st := 0, data := b, fin := true } : Pd)) :: L) w') := by
  rw [log35_lit]
  exact ssayer1_ok (K := K) (s := s) (op := 35) (p := ({ zPd with tag := tag, st := 0, data := b, fin := true } : Pd)) (ap := ap) (cp := cp) (okLog35 ht hs hb) hK0 h C
theorem selogin_ok {bs bd K : Nat} {acl : List Str} {s s' : Se} {p : Pd} {ap : Option Addr} {cp : Nat} {m : Int} (G : Gives L (GlP m)) (ha0 : 0 < acl.length) (ha1 : acl.length ≤ 1000) (hcd : p.cdb.length = 16) (hnu : ∀ v ∈ nums p, v < 4294967296) (hm : Se.login acl s p = some s') (hK0 : K ≤ 90000) (h : On W0 (SeP 183 117 K bs acl (.func (.func 69) #[.pointer (some ⟨bd, 0, none⟩)] #[]) s :: L) w) (C : Gives L (Bytes (.slice ap p.data.length cp) p.data)) : Calls Tryz.prog 134 #[.pointer (some ⟨bs, 0, none⟩), .agg (Pd.cells p (.slice ap p.data.length cp)).toArray] w (Ret fun v w' => On W0 (SeP 183 117 (K + 8400) bs acl (.func (.func 69) #[.pointer (some ⟨bd, 0, none⟩)] #[]) s' :: L) w') := by
  refine enter func134 rfl ntmps134 rfl ?_
  have hmx := maxLen_eq
  have hls := selogin_some hm
  obtain ⟨hop, l, q, b, hdt, hll, hng, hen, hs'⟩ := hls
  subst hs'
  clear hm
  have hql := negB_len hng
  have hbl := encT_small hen
  have hlen : ∀ x ∈ l, x.1.length ≤ 1000 ∧ x.2.length ≤ 1000 := fun x hx => by
    have := decT_lens (decTx_some hdt).2 x hx
    omega
  have hpt : p.tag < 4294967296 := hnu _ (by simp [nums])
  have ho_ := openSe h
  obtain ⟨x, hoks, hKs, h⟩ := ho_
  have h : On W0 (blk bs [.slice x.aa acl.length x.ca, (.func (.func 69) #[.pointer (some ⟨bd, 0, none⟩)] #[]), .pointer (some ⟨x.br, 0, none⟩), .string ⟨s.p.name.toArray⟩, .int .i64 (s.p.maxd : Int), .int .i64 (s.p.burst : Int), .bool s.p.imm, .bool s.p.dig, .bool s.open_, .bool false, .int .u32 (s.exp : Int), .int .u32 (s.sn : Int), .slice none 0 0, .slice x.at_ s.told.length x.ct] 183 :: _) w := h
  obtain ⟨ok1, ok2, ok3⟩ := hoks
  refine W.sr (WL.e (eff_box (v := .agg (Pd.cells p (.slice ap p.data.length cp)).toArray) (l := Pd.cells p (.slice ap p.data.length cp)) h rfl rfl) ?_)
  rintro _ w ⟨b3, rfl, h⟩
  refine WL.nil (W.seq (W.sr (WL.f 0 underlying36 rfl sizeOf3 rfl rfl (WL.l isAgg3 rfl (h.cellB rfl) (WL.v (run_neqF rfl rfl (by omega)) (WL.nil ?_))))))
  refine W.condF rfl (W.skip (W.sr (WL.a (WL.nil (W.sr ?_)))))
  refine WL.a (WL.a (WL.nil ?_))
  refine W.cut (fun env w => ∃ (j : Env) (a31 : Option Addr), okPm q.1 ∧ env = mkE j [(0, .pointer (some ⟨bs, 0, none⟩)), (3, .pointer (some ⟨b3, 0, none⟩)), (4, .int .i64 0), (5, .slice a31 q.2.length q.2.length)] ∧ On W0 (blk bs [.slice x.aa acl.length x.ca, (.func (.func 69) #[.pointer (some ⟨bd, 0, none⟩)] #[]), .pointer (some ⟨x.br, 0, none⟩), .string ⟨q.1.name.toArray⟩, .int .i64 (q.1.maxd : Int), .int .i64 (q.1.burst : Int), .bool q.1.imm, .bool q.1.dig, .bool s.open_, .bool false, .int .u32 (s.exp : Int), .int .u32 (s.sn : Int), .slice none 0 0, .slice x.at_ s.told.length x.ct] 183 :: RdrP 117 x.br s.r :: Own 1 (.slice x.aa acl.length x.ca) acl.length (acl.map fun t => Value.string ⟨t.toArray⟩) :: OwnB (.slice x.at_ s.told.length x.ct) s.told :: blk b3 (Pd.cells p (.slice ap p.data.length cp)) 36 :: Own 2 (.slice a31 q.2.length q.2.length) q.2.length (q.2.flatMap prCells) :: L) w) ?_ ?_
  ·
   refine W.sr (WL.f 26 underlying36 rfl sizeOf26 rfl rfl (WL.l isAgg26 rfl (h.cellB (cells_data hcd)) (WL.e (eff_call call149 (tdecode_ok (bs := p.data) (Gives.to G) hdt h (Gives.to C))) ?_)))
   rintro _ w ⟨a18, rfl, h⟩
   refine WL.m (WL.v (run_extract rfl rfl) (WL.v (run_extract rfl rfl) (WL.a (WL.a (WL.nil (W.sr ?_))))))
   refine WL.m (WL.v (run_eqlT rfl rfl (rfl)) (WL.nil (W.condT rfl ?_)))
   refine W.draw Tryz.follows h (fun w h => ?_)
   refine WT.m 0 rfl (WT.m 2 rfl (WT.n 3 rfl rfl (WT.f 4 0 rfl underlying183 rfl sizeOf131 rfl rfl (WT.l 5 rfl isAgg131 rfl (h.cellB rfl) (WT.m 6 rfl (WT.e 1 [true] rfl (eff_call call151 (ours_ok h)) ?_))))))
   rintro _ w ⟨rfl, h⟩
   refine ⟨⟨h.cellB rfl, trivial⟩, ?_⟩
   refine WT.e 7 [false] rfl (eff_call call150 (negotiate_ok (acl := acl) (l := l) (q := q.1) (outF := q.2) (Gives.to G) hll ha0 ha1 hlen hng h (Gives.ownO (v := .slice x.aa acl.length x.ca)) (Gives.ownO (v := .slice a18 l.length l.length)))) ?_
   rintro _ w ⟨a31, hokq, rfl, h⟩
   refine ⟨trivial, ?_⟩
   refine WT.m 8 rfl (WT.p 9 rfl (fun w' => (run_extract rfl rfl)) (WT.p 10 rfl (fun w' => (run_extract rfl rfl)) (WT.p 11 rfl (fun w' => (run_extract rfl rfl)) (WT.a 12 rfl (WT.n 13 rfl rfl (WT.f 14 3 rfl underlying183 rfl sizeOf127 rfl rfl (WT.e 15 [] rfl (eff_storeN (vs := q.1.cells) h sizeOf127 rfl rfl rfl rfl rfl (fun k _ _ => free0 k)) ?_)))))))
   rintro _ w h
   refine ⟨trivial, ?_⟩
   refine WT.a 16 rfl (WT.dn ?_)
   have h := h.p3
   have h : On W0 (blk bs [.slice x.aa acl.length x.ca, (.func (.func 69) #[.pointer (some ⟨bd, 0, none⟩)] #[]), .pointer (some ⟨x.br, 0, none⟩), .string ⟨q.1.name.toArray⟩, .int .i64 (q.1.maxd : Int), .int .i64 (q.1.burst : Int), .bool q.1.imm, .bool q.1.dig, .bool s.open_, .bool false, .int .u32 (s.exp : Int), .int .u32 (s.sn : Int), .slice none 0 0, .slice x.at_ s.told.length x.ct] 183 :: _) w := h
   exact ⟨_, a31, hokq, mkE_of ⟨rfl, rfl, rfl, rfl, trivial⟩, h.to⟩
  clear h
  rintro env w ⟨j, a31, hokq, rfl, h⟩
  refine W.cut (fun env w => ∃ (j : Env) (a41 : Option Addr), env = mkE j [(0, .pointer (some ⟨bs, 0, none⟩)), (3, .pointer (some ⟨b3, 0, none⟩)), (4, .int .i64 0), (6, .slice a41 b.length b.length)] ∧ On W0 (blk bs [.slice x.aa acl.length x.ca, (.func (.func 69) #[.pointer (some ⟨bd, 0, none⟩)] #[]), .pointer (some ⟨x.br, 0, none⟩), .string ⟨q.1.name.toArray⟩, .int .i64 (q.1.maxd : Int), .int .i64 (q.1.burst : Int), .bool q.1.imm, .bool q.1.dig, .bool s.open_, .bool false, .int .u32 (s.exp : Int), .int .u32 (s.sn : Int), .slice none 0 0, .slice x.at_ s.told.length x.ct] 183 :: RdrP 117 x.br s.r :: Own 1 (.slice x.aa acl.length x.ca) acl.length (acl.map fun t => Value.string ⟨t.toArray⟩) :: OwnB (.slice x.at_ s.told.length x.ct) s.told :: blk b3 (Pd.cells p (.slice ap p.data.length cp)) 36 :: OwnB (.slice a41 b.length b.length) b :: L) w) ?_ ?_
  ·
   refine W.sr (WL.m (WL.v (run_eqlT rfl rfl (rfl)) (WL.nil (W.condT rfl (W.sr ?_)))))
   refine WL.a (WL.nil (W.sr (WL.m (WL.e (eff_call call127 (tencode_ok (l := q.2) (b := b) (by omega) hen h (Gives.ownO (v := .slice a31 q.2.length q.2.length)))) ?_))))
   rintro _ w ⟨a41, rfl, h⟩
   refine WL.m (WL.v (run_extract rfl rfl) (WL.v (run_extract rfl rfl) (WL.a (WL.a (WL.nil (W.sr ?_))))))
   refine WL.m (WL.v (run_neqF rfl rfl (by decide)) (WL.nil (W.condF rfl (W.skip ?_))))
   exact ⟨_, a41, mkE_of ⟨rfl, rfl, rfl, rfl, trivial⟩, h.to⟩
  clear h
  rintro env w ⟨j, a41, rfl, h⟩
  refine W.sr (WL.m (WL.f 5 underlying36 rfl sizeOf24 rfl rfl (WL.l isAgg24 rfl (h.cellB rfl) (WL.v (run_addU32 (m := p.sn) (n := 1) rfl rfl) (WL.n rfl (WL.f 10 underlying183 rfl sizeOf24 rfl rfl ?_))))))
  refine WL.e (eff_store (v := .int .u32 (((p.sn + 1) % 4294967296 : Nat) : Int)) h sizeOf24 rfl rfl rfl rfl rfl) ?_
  rintro _ w h
  try simp only [Nat.zero_add, Nat.add_zero, List.set_cons_zero, List.set_cons_succ] at h
  refine WL.nil (W.seq ?_)
  refine W.draw Tryz.follows h (fun w h => ?_)
  refine WT.m 0 rfl (WT.f 2 4 rfl underlying36 rfl sizeOf24 rfl rfl (WT.l 3 rfl isAgg24 rfl (h.cellB rfl) (WT.m 4 rfl (WT.m 5 rfl ?_))))
  refine WT.p 6 rfl (fun w' => (run_buildS (pl := [(0, 1), (1, 1), (2, 1), (3, 1), (4, 1), (5, 1), (6, 1), (7, 1), (8, 1), (9, 1), (10, 16), (26, 1)]) (out := [.int .i64 _, .bool _, .int .i64 _, .int .i64 _, .int .u32 _, .int .u32 _, .int .u32 _, .int .u32 _, .int .u32 _, .int .u32 _, .int .u8 _, .int .u8 _, .int .u8 _, .int .u8 _, .int .u8 _, .int .u8 _, .int .u8 _, .int .u8 _, .int .u8 _, .int .u8 _, .int .u8 _, .int .u8 _, .int .u8 _, .int .u8 _, .int .u8 _, .int .u8 _, .slice _ _ _]) underlying36 zeroValue36 (fun w => by kernel_rfl) rfl (⟨⟨_, _, rfl, rfl, by decide⟩, ⟨⟨_, _, rfl, rfl, by decide⟩, ⟨⟨_, _, rfl, rfl, by decide⟩, ⟨⟨_, _, rfl, rfl, by decide⟩, trivial⟩⟩⟩⟩) rfl)) ?_
  refine WT.e 1 [true] rfl (eff_call call146 (ssayer_ok (bs := bs) (op := 35) h)) ?_
  rintro _ w ⟨b2, b3_, rfl, h⟩
  have h := closeSe (s := ({ s with p := q.1, exp := (p.sn + 1) % 4294967296 } : Se)) (K := K) (acl := acl) (dof := (.func (.func 69) #[.pointer (some ⟨bd, 0, none⟩)] #[])) (T := 183) (TR := 117) (b := bs) x ⟨hokq, (show (p.sn + 1) % 4294967296 < 4294967296 by omega), ok3⟩ hKs (h.to (T := blk bs [.slice x.aa acl.length x.ca, (.func (.func 69) #[.pointer (some ⟨bd, 0, none⟩)] #[]), .pointer (some ⟨x.br, 0, none⟩), .string ⟨q.1.name.toArray⟩, .int .i64 (q.1.maxd : Int), .int .i64 (q.1.burst : Int), .bool q.1.imm, .bool q.1.dig, .bool s.open_, .bool false, .int .u32 (((p.sn + 1) % 4294967296 : Nat) : Int), .int .u32 (s.sn : Int), .slice none 0 0, .slice x.at_ s.told.length x.ct] 183 :: RdrP 117 x.br s.r :: Own 1 (.slice x.aa acl.length x.ca) acl.length (acl.map fun t => Value.string ⟨t.toArray⟩) :: OwnB (.slice x.at_ s.told.length x.ct) s.told :: blk b2 [.pointer (some ⟨bs, 0, none⟩)] 129 :: blk b3_ [.int .i64 ((35 : Nat) : Int)] 3 :: OwnB (.slice a41 b.length b.length) b :: blk b3 (Pd.cells p (.slice ap p.data.length cp)) 36 :: L))
  refine ⟨⟨h.cellB rfl, trivial⟩, ?_⟩
  refine WT.e 7 [false] rfl (eff_callV (xs := [_]) rfl call169 (log35_ok (K := K) (s := ({ s with p := q.1, exp := (p.sn + 1) % 4294967296 } : Se)) (tag := p.tag) (b := b) (ap := a41) (cp := b.length) hpt ok3 hbl (Nat.le_trans hK0 (by decide)) h (Gives.ownO (v := .slice a41 b.length b.length)))) ?_
  rintro _ w h
  refine ⟨trivial, ?_⟩
  refine WT.dn (W.seq ?_)
  have ho_ := openSe h
  obtain ⟨y, hoks, hKy, h⟩ := ho_
  have h : On W0 (blk bs [.slice y.aa acl.length y.ca, (.func (.func 69) #[.pointer (some ⟨bd, 0, none⟩)] #[]), .pointer (some ⟨y.br, 0, none⟩), .string ⟨(Se.sayer ({ s with p := q.1, exp := (p.sn + 1) % 4294967296 } : Se) 35 ({ zPd with tag := p.tag, st := 0, data := b, fin := true } : Pd)).p.name.toArray⟩, .int .i64 ((Se.sayer ({ s with p := q.1, exp := (p.sn + 1) % 4294967296 } : Se) 35 ({ zPd with tag := p.tag, st := 0, data := b, fin := true } : Pd)).p.maxd : Int), .int .i64 ((Se.sayer ({ s with p := q.1, exp := (p.sn + 1) % 4294967296 } : Se) 35 ({ zPd with tag := p.tag, st := 0, data := b, fin := true } : Pd)).p.burst : Int), .bool (Se.sayer ({ s with p := q.1, exp := (p.sn + 1) % 4294967296 } : Se) 35 ({ zPd with tag := p.tag, st := 0, data := b, fin := true } : Pd)).p.imm, .bool (Se.sayer ({ s with p := q.1, exp := (p.sn + 1) % 4294967296 } : Se) 35 ({ zPd with tag := p.tag, st := 0, data := b, fin := true } : Pd)).p.dig, .bool (Se.sayer ({ s with p := q.1, exp := (p.sn + 1) % 4294967296 } : Se) 35 ({ zPd with tag := p.tag, st := 0, data := b, fin := true } : Pd)).open_, .bool false, .int .u32 ((Se.sayer ({ s with p := q.1, exp := (p.sn + 1) % 4294967296 } : Se) 35 ({ zPd with tag := p.tag, st := 0, data := b, fin := true } : Pd)).exp : Int), .int .u32 ((Se.sayer ({ s with p := q.1, exp := (p.sn + 1) % 4294967296 } : Se) 35 ({ zPd with tag := p.tag, st := 0, data := b, fin := true } : Pd)).sn : Int), .slice none 0 0, .slice y.at_ (Se.sayer ({ s with p := q.1, exp := (p.sn + 1) % 4294967296 } : Se) 35 ({ zPd with tag := p.tag, st := 0, data := b, fin := true } : Pd)).told.length y.ct] 183 :: _) w := h
  refine W.region (WL.m (WL.m (WL.v (run_eqlT rfl rfl (rfl)) (WL.n rfl (WL.f 8 underlying183 rfl sizeOf4 rfl rfl (WL.e (eff_store (v := .bool _) h sizeOf4 rfl rfl rfl rfl rfl) ?_))))))
  rintro _ w h
  try simp only [Nat.zero_add, Nat.add_zero, List.set_cons_zero, List.set_cons_succ] at h
  refine WL.nil (W.sr (WL.m (WL.n rfl (WL.f 8 underlying183 rfl sizeOf4 rfl rfl (WL.l isAgg4 rfl (h.cellB rfl) (WL.v (run_not rfl) ?_))))))
  refine WL.nil (W.condF rfl (W.skip (bodyQ.fall (bodyQ.r0 results134 ?_))))
  have h := h.to (T := blk bs [.slice y.aa acl.length y.ca, (.func (.func 69) #[.pointer (some ⟨bd, 0, none⟩)] #[]), .pointer (some ⟨y.br, 0, none⟩), .string ⟨(Se.sayer ({ s with p := q.1, exp := (p.sn + 1) % 4294967296 } : Se) 35 ({ zPd with tag := p.tag, st := 0, data := b, fin := true } : Pd)).p.name.toArray⟩, .int .i64 ((Se.sayer ({ s with p := q.1, exp := (p.sn + 1) % 4294967296 } : Se) 35 ({ zPd with tag := p.tag, st := 0, data := b, fin := true } : Pd)).p.maxd : Int), .int .i64 ((Se.sayer ({ s with p := q.1, exp := (p.sn + 1) % 4294967296 } : Se) 35 ({ zPd with tag := p.tag, st := 0, data := b, fin := true } : Pd)).p.burst : Int), .bool (Se.sayer ({ s with p := q.1, exp := (p.sn + 1) % 4294967296 } : Se) 35 ({ zPd with tag := p.tag, st := 0, data := b, fin := true } : Pd)).p.imm, .bool (Se.sayer ({ s with p := q.1, exp := (p.sn + 1) % 4294967296 } : Se) 35 ({ zPd with tag := p.tag, st := 0, data := b, fin := true } : Pd)).p.dig, .bool true, .bool false, .int .u32 ((Se.sayer ({ s with p := q.1, exp := (p.sn + 1) % 4294967296 } : Se) 35 ({ zPd with tag := p.tag, st := 0, data := b, fin := true } : Pd)).exp : Int), .int .u32 ((Se.sayer ({ s with p := q.1, exp := (p.sn + 1) % 4294967296 } : Se) 35 ({ zPd with tag := p.tag, st := 0, data := b, fin := true } : Pd)).sn : Int), .slice none 0 0, .slice y.at_ (Se.sayer ({ s with p := q.1, exp := (p.sn + 1) % 4294967296 } : Se) 35 ({ zPd with tag := p.tag, st := 0, data := b, fin := true } : Pd)).told.length y.ct] 183 :: RdrP 117 y.br (Se.sayer ({ s with p := q.1, exp := (p.sn + 1) % 4294967296 } : Se) 35 ({ zPd with tag := p.tag, st := 0, data := b, fin := true } : Pd)).r :: Own 1 (.slice y.aa acl.length y.ca) acl.length (acl.map fun t => Value.string ⟨t.toArray⟩) :: OwnB (.slice y.at_ (Se.sayer ({ s with p := q.1, exp := (p.sn + 1) % 4294967296 } : Se) 35 ({ zPd with tag := p.tag, st := 0, data := b, fin := true } : Pd)).told.length y.ct) (Se.sayer ({ s with p := q.1, exp := (p.sn + 1) % 4294967296 } : Se) 35 ({ zPd with tag := p.tag, st := 0, data := b, fin := true } : Pd)).told :: L)
  exact On.exI y (On.pack ⟨hoks, (show _ ≤ K + 8400 from Nat.le_trans hKy (by omega))⟩ h)
end Go.Proofs.YtjfmjbmkkpkppaaGreatDoor
namespace Go.Proofs.YtjfmjbmkkpkppaaGreatDoor
open Go.Proofs.Tryz
open Go Go.Sl Go.Sl.BitM Go.Sl.SpM Go.Sl.RsM Go.Sl.ByM Go.Sl.UnM Go.Sl.TpM
set_option linter.unusedVariables false
set_option linter.unusedSimpArgs false
set_option maxHeartbeats 1000000
set_option maxRecDepth 8000
variable {W0 w : World} {L F : List HProp}
theorem sein_some {acl : List Str} {s s' : Se} {u u' : Un} {b o : List UInt8} (h : Se.in_ acl s u b = some (o, s', u')) : s.r.b.length + b.length ≤ 900000 ∧ ∃ s1, Se.inK acl (b.length + 1) { s with r := s.r.put b, told := [] } u = some (s1, u') ∧ o = s1.told ∧ s' = { s1 with told := [] } := by
  unfold Se.in_ at h
  split at h
  · cases h
  · rename_i h1
    cases hk : Se.inK acl (b.length + 1) { s with r := s.r.put b, told := [] } u with
    | none => rw [hk] at h; cases h
    | some q =>
      rw [hk] at h
      obtain ⟨q1, q2⟩ := q
      cases h
      exact ⟨by omega, q1, rfl, rfl, rfl⟩
theorem seinK_some {acl : List Str} {f : Nat} {s s1 : Se} {u u1 : Un} (h : Se.inK acl f s u = some (s1, u1)) : ∃ f', f = f' + 1 ∧ s.told.length ≤ 80000 ∧ s.r.b.length ≤ 900000 ∧ ((s.r.next.1.2 = true ∧ ∃ s2 u2, ((s.open_ = true ∧ Se.take { s with r := s.r.next.2 } u s.r.next.1.1 = some (s2, u2)) ∨ (s.open_ = false ∧ Se.login acl { s with r := s.r.next.2 } s.r.next.1.1 = some s2 ∧ u2 = u)) ∧ Se.inK acl f' s2 u2 = some (s1, u1)) ∨ (s.r.next.1.2 = false ∧ s.r.next.2.err = 0 ∧ s1 = { s with r := s.r.next.2 } ∧ u1 = u)) := by
  match f, h with
  | f + 1, h =>
    unfold Se.inK at h
    split at h
    · cases h
    · rename_i h1
      refine ⟨f, rfl, by omega, by omega, ?_⟩
      split at h
      · rename_i h2
        refine .inl ⟨h2, ?_⟩
        split at h
        · rename_i h3
          cases ht : Se.take { s with r := s.r.next.2 } u s.r.next.1.1 with
          | none => rw [ht] at h; cases h
          | some q => rw [ht] at h; obtain ⟨s2, u2⟩ := q; exact ⟨s2, u2, .inl ⟨h3, rfl⟩, h⟩
        · rename_i h3
          cases ht : Se.login acl { s with r := s.r.next.2 } s.r.next.1.1 with
          | none => rw [ht] at h; cases h
          | some s2 => rw [ht] at h; exact ⟨s2, u, .inr ⟨by simpa using h3, rfl, rfl⟩, h⟩
      · rename_i h2
        split at h
        · rename_i h3; cases h; exact .inr ⟨by simpa using h2, h3, rfl, rfl⟩
        · cases h
theorem sein_ok {ax : Option Addr} {cx : Nat} {bs_ : List UInt8} {bs bd K : Nat} {acl : List Str} {s s' : Se} {u u' : Un} {o : List UInt8} {m : Int} (G : Gives L (GlP m)) (ha0 : 0 < acl.length) (ha1 : acl.length ≤ 1000) (hm : Se.in_ acl s u bs_ = some (o, s', u')) (h : On W0 (SeP 183 117 K bs acl (.func (.func 69) #[.pointer (some ⟨bd, 0, none⟩)] #[]) s :: DeskP 123 108 151 154 bd u :: L) w) (C : Gives L (Bytes (.slice ax bs_.length cx) bs_)) : Calls Tryz.prog 105 #[.pointer (some ⟨bs, 0, none⟩), .slice ax bs_.length cx] w (Ret fun v w' => ∃ a, v = .slice a o.length o.length ∧ On W0 (SeP 183 117 0 bs acl (.func (.func 69) #[.pointer (some ⟨bd, 0, none⟩)] #[]) s' :: OwnB (.slice a o.length o.length) o :: DeskP 123 108 151 154 bd u' :: L) w') := by
  refine enter func105 rfl ntmps105 rfl ?_
  have hmx := maxLen_eq
  have hss := sein_some hm
  obtain ⟨hlen, s1, hik, ho, hs'⟩ := hss
  clear hm
  have ho_ := openSe h
  obtain ⟨x, hoks, hKs, h⟩ := ho_
  have h : On W0 (blk bs [.slice x.aa acl.length x.ca, (.func (.func 69) #[.pointer (some ⟨bd, 0, none⟩)] #[]), .pointer (some ⟨x.br, 0, none⟩), .string ⟨s.p.name.toArray⟩, .int .i64 (s.p.maxd : Int), .int .i64 (s.p.burst : Int), .bool s.p.imm, .bool s.p.dig, .bool s.open_, .bool false, .int .u32 (s.exp : Int), .int .u32 (s.sn : Int), .slice none 0 0, .slice x.at_ s.told.length x.ct] 183 :: _) w := h
  refine W.sr (WL.a (WL.nil (W.scope (W.sr (WL.m ?_)))))
  refine WL.n rfl (WL.f 13 underlying183 rfl sizeOf26 rfl rfl (WL.e (eff_store (v := .slice none 0 0) h sizeOf26 rfl rfl rfl rfl rfl) ?_))
  rintro _ w h
  try simp only [Nat.zero_add, Nat.add_zero, List.set_cons_zero, List.set_cons_succ] at h
  refine WL.nil (W.seq (W.sr (WL.m (WL.n rfl (WL.f 9 underlying183 rfl sizeOf4 rfl rfl (WL.l isAgg4 rfl (h.cellB rfl) ?_))))))
  refine WL.nil (W.condF rfl (W.skip (W.sr (WL.m (WL.n rfl (WL.f 2 underlying183 rfl sizeOf61 rfl rfl ?_))))))
  refine WL.l isAgg61 rfl (h.cellB rfl) (WL.m (WL.e (eff_call call27 (rput_ok (bs := bs_) (r := s.r) (by omega) (h.fetch (RdrP 117 x.br s.r)) (Gives.to C))) ?_))
  rintro _ w h
  refine WL.nil (W.seq (W.label (W.seq (W.block ?_))))
  refine W.loop (fun (f : Nat) env w => ∃ (j : Env) (ss : Se) (uu : Un) (KK : Nat), Se.inK acl f ss uu = some (s1, u') ∧ env = mkE j [(0, .pointer (some ⟨bs, 0, none⟩))] ∧ On W0 (SeP 183 117 KK bs acl (.func (.func 69) #[.pointer (some ⟨bd, 0, none⟩)] #[]) ss :: DeskP 123 108 151 154 bd uu :: L) w) (fun f => f) (bs_.length + 1) ?_ ?_
  · have h := h.ownEmpty 1 none
    have h : On W0 (OwnB (.slice none ([] : List UInt8).length 0) [] :: _) w := h
    have h := closeSe (s := { s with r := s.r.put bs_, told := [] }) (K := 0) (acl := acl) (dof := (.func (.func 69) #[.pointer (some ⟨bd, 0, none⟩)] #[])) (T := 183) (TR := 117) (b := bs) { x with at_ := none, ct := 0 } hoks (Nat.le_refl _) (h.to (T := blk bs [.slice x.aa acl.length x.ca, (.func (.func 69) #[.pointer (some ⟨bd, 0, none⟩)] #[]), .pointer (some ⟨x.br, 0, none⟩), .string ⟨s.p.name.toArray⟩, .int .i64 (s.p.maxd : Int), .int .i64 (s.p.burst : Int), .bool s.p.imm, .bool s.p.dig, .bool s.open_, .bool false, .int .u32 (s.exp : Int), .int .u32 (s.sn : Int), .slice none 0 0, .slice none 0 0] 183 :: RdrP 117 x.br (s.r.put bs_) :: Own 1 (.slice x.aa acl.length x.ca) acl.length (acl.map fun t => Value.string ⟨t.toArray⟩) :: OwnB (.slice none ([] : List UInt8).length 0) [] :: DeskP 123 108 151 154 bd u :: L))
    exact ⟨_, _, _, 0, hik, mkE_of ⟨rfl, trivial⟩, h⟩
  clear h hoks hKs hik hlen
  rintro f env w ⟨j, ss, uu, KK, hik, rfl, h⟩
  have hks := seinK_some hik
  obtain ⟨f1, hf, h80, hlen, hks⟩ := hks
  subst hf
  have ho_ := openSe h
  obtain ⟨x, hoks, _, h⟩ := ho_
  have h : On W0 (blk bs [.slice x.aa acl.length x.ca, (.func (.func 69) #[.pointer (some ⟨bd, 0, none⟩)] #[]), .pointer (some ⟨x.br, 0, none⟩), .string ⟨ss.p.name.toArray⟩, .int .i64 (ss.p.maxd : Int), .int .i64 (ss.p.burst : Int), .bool ss.p.imm, .bool ss.p.dig, .bool ss.open_, .bool false, .int .u32 (ss.exp : Int), .int .u32 (ss.sn : Int), .slice none 0 0, .slice x.at_ ss.told.length x.ct] 183 :: _) w := h
  refine W.block (W.sr (WL.m (WL.n rfl (WL.f 2 underlying183 rfl sizeOf61 rfl rfl (WL.l isAgg61 rfl (h.cellB rfl) (WL.e (eff_call call29 (rnext_ok (r := ss.r) (by omega) (h.fetch (RdrP 117 x.br ss.r)))) ?_))))))
  rintro _ w hv
  rcases hv with ⟨hnx, rfl, h⟩ | ⟨hnx, hcd, an, cn, rfl, h⟩
  ·
   have hks2 : ss.r.next.2.err = 0 ∧ s1 = ({ ss with r := ss.r.next.2 } : Se) ∧ u' = uu := by
     rcases hks with ⟨q, _⟩ | ⟨_, q⟩
     · rw [hnx] at q; cases q
     · exact q
   obtain ⟨her, hs1, hu1⟩ := hks2
   refine WL.m (WL.v (run_extract rfl rfl) (WL.v (run_extract rfl rfl) (WL.e (eff_alloc h zeroValue36 rfl) ?_)))
   rintro _ w ⟨b5, rfl, h⟩
   refine WL.e (eff_storeW (vs := (Pd.cells zPd (.slice none 0 0))) h sizeOf36 rfl rfl rfl rfl rfl) ?_
   rintro _ w h
   refine WL.a (WL.nil (W.seq (W.block (W.sr (WL.m (WL.v (run_not rfl) ?_))))))
   refine WL.a (WL.nil (W.condT rfl (W.seq (W.sr (WL.m (WL.n rfl ?_))))))
   refine WL.f 2 underlying183 rfl sizeOf61 rfl rfl (WL.l isAgg61 rfl (h.cellB rfl) (WL.e (eff_call call31 (rerr_ok (r := ss.r.next.2) (h.fetch (RdrP 117 x.br ss.r.next.2)))) ?_))
   rintro _ w ⟨rfl, h⟩
   refine WL.v (run_neqF rfl rfl (by omega)) (WL.nil (W.condF rfl (W.skip (W.exit (W.sr (WL.m ?_))))))
   refine WL.n rfl (WL.f 13 underlying183 rfl sizeOf26 rfl rfl (WL.l isAgg26 rfl (h.cellB rfl) (WL.e (eff_call call43 (clip_bytes (h.own (.slice x.at_ ss.told.length x.ct)))) ?_)))
   rintro _ w ⟨rfl, h⟩
   refine WL.a (WL.nil (W.sr (WL.m (WL.n rfl (WL.f 13 underlying183 rfl sizeOf26 rfl rfl (WL.e (eff_store (v := .slice _ _ _) h sizeOf26 rfl rfl rfl rfl rfl) ?_))))))
   rintro _ w h
   try simp only [Nat.zero_add, Nat.add_zero, List.set_cons_zero, List.set_cons_succ] at h
   refine WL.nil (W.sr (WL.m (WL.a (WL.nil (W.ret (bodyQ.r1 (v := .slice _ _ _) results105 rfl ?_))))))
   subst ho
   subst hs'
   subst hs1
   subst hu1
   have h := h.ownEmpty 1 none
   have h : On W0 (OwnB (.slice none ([] : List UInt8).length 0) [] :: _) w := h
   refine ⟨x.at_, rfl, closeSe (s := { ({ ss with r := ss.r.next.2 } : Se) with told := [] }) (K := 0) { x with at_ := none, ct := 0 } hoks (Nat.le_refl _) ?_⟩
   show On W0 (blk bs [.slice x.aa acl.length x.ca, (.func (.func 69) #[.pointer (some ⟨bd, 0, none⟩)] #[]), .pointer (some ⟨x.br, 0, none⟩), .string ⟨ss.p.name.toArray⟩, .int .i64 (ss.p.maxd : Int), .int .i64 (ss.p.burst : Int), .bool ss.p.imm, .bool ss.p.dig, .bool ss.open_, .bool false, .int .u32 (ss.exp : Int), .int .u32 (ss.sn : Int), .slice none 0 0, .slice none 0 0] 183 :: RdrP 117 x.br ss.r.next.2 :: Own 1 (.slice x.aa acl.length x.ca) acl.length (acl.map fun t => Value.string ⟨t.toArray⟩) :: OwnB (.slice none ([] : List UInt8).length 0) [] :: OwnB (.slice x.at_ ss.told.length ss.told.length) ss.told :: DeskP 123 108 151 154 bd u' :: L) w
   exact h.to
  have hks2 : ∃ s2 u2, ((ss.open_ = true ∧ Se.take ({ ss with r := ss.r.next.2 } : Se) uu ss.r.next.1.1 = some (s2, u2)) ∨ (ss.open_ = false ∧ Se.login acl ({ ss with r := ss.r.next.2 } : Se) ss.r.next.1.1 = some s2 ∧ u2 = uu)) ∧ Se.inK acl f1 s2 u2 = some (s1, u') := by
    rcases hks with ⟨_, q⟩ | ⟨q, _⟩
    · exact q
    · rw [hnx] at q; cases q
  obtain ⟨s2, u2, hst, hik2⟩ := hks2
  have hnu := next_nums hnx
  refine WL.m (WL.v (run_extract rfl rfl) (WL.v (run_extract rfl rfl) (WL.e (eff_alloc h zeroValue36 rfl) ?_)))
  rintro _ w ⟨b5, rfl, h⟩
  refine WL.e (eff_storeW (vs := Pd.cells ss.r.next.1.1 (.slice an ss.r.next.1.1.data.length cn)) h sizeOf36 rfl rfl (cells_len hcd) (cells_one rfl) rfl) ?_
  rintro _ w h
  refine WL.a (WL.nil (W.seq (W.block (W.sr (WL.m (WL.v (run_not rfl) ?_))))))
  refine WL.a (WL.nil (W.condF rfl (W.sr (WL.m (WL.n rfl (WL.f 8 underlying183 rfl sizeOf4 rfl rfl ?_))))))
  refine WL.l isAgg4 rfl (h.cellB rfl) (WL.a (WL.nil ?_))
  refine W.condB rfl (fun c23 => ?_) (fun c23 => ?_)
  ·
   have htk : Se.take ({ ss with r := ss.r.next.2 } : Se) uu ss.r.next.1.1 = some (s2, u2) := by
     rcases hst with ⟨_, q⟩ | ⟨q, _⟩
     · exact q
     · rw [c23] at q; cases q
   refine W.region (WL.m (WL.v (run_loadB (vs := Pd.cells ss.r.next.1.1 (.slice an ss.r.next.1.1.data.length cn)) h isAgg36 sizeOf36 rfl (List.take_of_length_le (Nat.le_of_eq (cells_len hcd))) (cells_len hcd)) ?_))
   refine WL.e (eff_call call133 (setake_ok (K := 80000) (s := ({ ss with r := ss.r.next.2 } : Se)) (p := ss.r.next.1.1) (ap := an) (cp := cn) hcd hnu htk (by decide) (closeSe (s := ({ ss with r := ss.r.next.2 } : Se)) x hoks h80 (h.to (T := blk bs [.slice x.aa acl.length x.ca, (.func (.func 69) #[.pointer (some ⟨bd, 0, none⟩)] #[]), .pointer (some ⟨x.br, 0, none⟩), .string ⟨ss.p.name.toArray⟩, .int .i64 (ss.p.maxd : Int), .int .i64 (ss.p.burst : Int), .bool ss.p.imm, .bool ss.p.dig, .bool ss.open_, .bool false, .int .u32 (ss.exp : Int), .int .u32 (ss.sn : Int), .slice none 0 0, .slice x.at_ ss.told.length x.ct] 183 :: RdrP 117 x.br ss.r.next.2 :: Own 1 (.slice x.aa acl.length x.ca) acl.length (acl.map fun t => Value.string ⟨t.toArray⟩) :: OwnB (.slice x.at_ ss.told.length x.ct) ss.told :: DeskP 123 108 151 154 bd uu :: OwnB (.slice an ss.r.next.1.1.data.length cn) ss.r.next.1.1.data :: L))) (Gives.ownO (v := (.slice an ss.r.next.1.1.data.length cn))))) ?_
   rintro _ w h
   have h : On W0 (SeP 183 117 (80000 + 8400) bs acl (.func (.func 69) #[.pointer (some ⟨bd, 0, none⟩)] #[]) s2 :: DeskP 123 108 151 154 bd u2 :: L) w := h.to
   refine WL.nil (W.seq ?_)
   have ho_ := openSe h
   obtain ⟨y, hoks, _, h⟩ := ho_
   have h : On W0 (blk bs [.slice y.aa acl.length y.ca, (.func (.func 69) #[.pointer (some ⟨bd, 0, none⟩)] #[]), .pointer (some ⟨y.br, 0, none⟩), .string ⟨s2.p.name.toArray⟩, .int .i64 (s2.p.maxd : Int), .int .i64 (s2.p.burst : Int), .bool s2.p.imm, .bool s2.p.dig, .bool s2.open_, .bool false, .int .u32 (s2.exp : Int), .int .u32 (s2.sn : Int), .slice none 0 0, .slice y.at_ s2.told.length y.ct] 183 :: _) w := h
   refine W.region (WL.m (WL.n rfl (WL.f 9 underlying183 rfl sizeOf4 rfl rfl (WL.l isAgg4 rfl (h.cellB rfl) (WL.nil (W.condF rfl (W.skip ?_)))))))
   have h := h.to (T := blk bs [.slice y.aa acl.length y.ca, (.func (.func 69) #[.pointer (some ⟨bd, 0, none⟩)] #[]), .pointer (some ⟨y.br, 0, none⟩), .string ⟨s2.p.name.toArray⟩, .int .i64 (s2.p.maxd : Int), .int .i64 (s2.p.burst : Int), .bool s2.p.imm, .bool s2.p.dig, .bool s2.open_, .bool false, .int .u32 (s2.exp : Int), .int .u32 (s2.sn : Int), .slice none 0 0, .slice y.at_ s2.told.length y.ct] 183 :: RdrP 117 y.br s2.r :: Own 1 (.slice y.aa acl.length y.ca) acl.length (acl.map fun t => Value.string ⟨t.toArray⟩) :: OwnB (.slice y.at_ s2.told.length y.ct) s2.told :: DeskP 123 108 151 154 bd u2 :: L)
   exact ⟨f1, ⟨_, s2, u2, s2.told.length, hik2, mkE_of ⟨rfl, trivial⟩, On.exI y (On.pack ⟨hoks, Nat.le_refl _⟩ h)⟩, Nat.lt_succ_self f1⟩
  have htk : Se.login acl ({ ss with r := ss.r.next.2 } : Se) ss.r.next.1.1 = some s2 ∧ u2 = uu := by
    rcases hst with ⟨q, _⟩ | ⟨_, q⟩
    · rw [c23] at q; cases q
    · exact q
  obtain ⟨htk, hu2⟩ := htk
  refine W.region (WL.m (WL.v (run_loadB (vs := Pd.cells ss.r.next.1.1 (.slice an ss.r.next.1.1.data.length cn)) h isAgg36 sizeOf36 rfl (List.take_of_length_le (Nat.le_of_eq (cells_len hcd))) (cells_len hcd)) ?_))
  refine WL.e (eff_call call134 (selogin_ok (bd := bd) (K := 80000) (s := ({ ss with r := ss.r.next.2 } : Se)) (p := ss.r.next.1.1) (ap := an) (cp := cn) (Gives.to G) ha0 ha1 hcd hnu htk (by decide) (closeSe (s := ({ ss with r := ss.r.next.2 } : Se)) x hoks h80 (h.to (T := blk bs [.slice x.aa acl.length x.ca, (.func (.func 69) #[.pointer (some ⟨bd, 0, none⟩)] #[]), .pointer (some ⟨x.br, 0, none⟩), .string ⟨ss.p.name.toArray⟩, .int .i64 (ss.p.maxd : Int), .int .i64 (ss.p.burst : Int), .bool ss.p.imm, .bool ss.p.dig, .bool ss.open_, .bool false, .int .u32 (ss.exp : Int), .int .u32 (ss.sn : Int), .slice none 0 0, .slice x.at_ ss.told.length x.ct] 183 :: RdrP 117 x.br ss.r.next.2 :: Own 1 (.slice x.aa acl.length x.ca) acl.length (acl.map fun t => Value.string ⟨t.toArray⟩) :: OwnB (.slice x.at_ ss.told.length x.ct) ss.told :: DeskP 123 108 151 154 bd uu :: OwnB (.slice an ss.r.next.1.1.data.length cn) ss.r.next.1.1.data :: L))) (Gives.ownO (v := (.slice an ss.r.next.1.1.data.length cn))))) ?_
  rintro _ w h
  rw [← hu2] at h
  have h : On W0 (SeP 183 117 (80000 + 8400) bs acl (.func (.func 69) #[.pointer (some ⟨bd, 0, none⟩)] #[]) s2 :: DeskP 123 108 151 154 bd u2 :: L) w := h.to
  refine WL.nil (W.seq ?_)
  have ho_ := openSe h
  obtain ⟨y, hoks, _, h⟩ := ho_
  have h : On W0 (blk bs [.slice y.aa acl.length y.ca, (.func (.func 69) #[.pointer (some ⟨bd, 0, none⟩)] #[]), .pointer (some ⟨y.br, 0, none⟩), .string ⟨s2.p.name.toArray⟩, .int .i64 (s2.p.maxd : Int), .int .i64 (s2.p.burst : Int), .bool s2.p.imm, .bool s2.p.dig, .bool s2.open_, .bool false, .int .u32 (s2.exp : Int), .int .u32 (s2.sn : Int), .slice none 0 0, .slice y.at_ s2.told.length y.ct] 183 :: _) w := h
  refine W.region (WL.m (WL.n rfl (WL.f 9 underlying183 rfl sizeOf4 rfl rfl (WL.l isAgg4 rfl (h.cellB rfl) (WL.nil (W.condF rfl (W.skip ?_)))))))
  have h := h.to (T := blk bs [.slice y.aa acl.length y.ca, (.func (.func 69) #[.pointer (some ⟨bd, 0, none⟩)] #[]), .pointer (some ⟨y.br, 0, none⟩), .string ⟨s2.p.name.toArray⟩, .int .i64 (s2.p.maxd : Int), .int .i64 (s2.p.burst : Int), .bool s2.p.imm, .bool s2.p.dig, .bool s2.open_, .bool false, .int .u32 (s2.exp : Int), .int .u32 (s2.sn : Int), .slice none 0 0, .slice y.at_ s2.told.length y.ct] 183 :: RdrP 117 y.br s2.r :: Own 1 (.slice y.aa acl.length y.ca) acl.length (acl.map fun t => Value.string ⟨t.toArray⟩) :: OwnB (.slice y.at_ s2.told.length y.ct) s2.told :: DeskP 123 108 151 154 bd u2 :: L)
  exact ⟨f1, ⟨_, s2, u2, s2.told.length, hik2, mkE_of ⟨rfl, trivial⟩, On.exI y (On.pack ⟨hoks, Nat.le_refl _⟩ h)⟩, Nat.lt_succ_self f1⟩
end Go.Proofs.YtjfmjbmkkpkppaaGreatDoor
namespace Go.Sl.TpM
open Go Go.Sl Go.Sl.ByM Go.Sl.UnM
set_option linter.unusedVariables false
theorem sealB_len (b : List UInt8) : (sealB b).length = b.length + 4 := by
  unfold sealB; rw [List.length_append]; rfl
theorem packet_len (c : Cn) (fr : Nat) (b : List UInt8) : (c.packet fr b).length = b.length + 21 := by
  unfold Cn.packet
  rw [sealB_len, List.length_append, packK_len c fr 4 (Nat.le_refl _)]; omega
theorem chunks_small (c : Cn) : ∀ (f s : Nat), ∀ p ∈ c.chunks f s, p.length ≤ 2000
  | 0, _, p, h => by cases h
  | f + 1, s, p, h => by
    unfold Cn.chunks at h
    split at h
    · cases h
    · rcases List.mem_cons.1 h with e | h
      · rw [e, packet_len, List.length_take]; omega
      · exact chunks_small c f _ p h
theorem outL_small (c : Cn) : ∀ p ∈ c.outL, p.length ≤ 2000 := by
  intro p h
  unfold Cn.outL at h
  split at h
  · cases h
  · have h : p ∈ (if c.say && (if c.known then c.chunks 5 c.sent else []).isEmpty then [c.packet (if c.known then c.out.length else c.sent) []] else (if c.known then c.chunks 5 c.sent else [])) := h
    by_cases hs : (c.say && (if c.known then c.chunks 5 c.sent else []).isEmpty) = true
    · rw [if_pos hs] at h
      rw [List.mem_singleton.1 h, packet_len]; simp
    · rw [if_neg hs] at h
      split at h
      · exact chunks_small c _ _ p h
      · cases h
theorem ownTail {W0 w : World} {L : List HProp} {a : Option Addr} {c l : Nat} {bs : List UInt8} (H : On W0 (OwnB (.slice a bs.length c) bs :: L) w) (hl : l ≤ bs.length) : bs.length ≤ c ∧ ∃ a' c', sliced a l bs.length c 1 = .slice a' (bs.drop l).length c' ∧ On W0 (OwnB (.slice a' (bs.drop l).length c') (bs.drop l) :: L) w := by
  have hf := Own.form H
  obtain ⟨a1, c1, hv, h1, h2, h3⟩ := hf
  simp only [Value.slice.injEq] at hv
  obtain ⟨rfl, _, rfl⟩ := hv
  refine ⟨h1, ?_⟩
  have hd : (bytesV bs).drop (l * 1) = bytesV (bs.drop l) := by unfold bytesV; rw [Nat.mul_one, List.map_drop]
  have hfact : (bs.length = 0 ∧ c = 0) ∨ ∃ g off, a = some ⟨g, off, none⟩ := by
    obtain ⟨h1, s, ho⟩ := H.sat.fact
    rcases ho.2 with ⟨h0, ao, hv⟩ | ⟨g, off, cap, cur, e, fr, hv, _⟩
    · simp only [Value.slice.injEq] at hv
      exact .inl ⟨h0, hv.2.2⟩
    · simp only [Value.slice.injEq] at hv
      exact .inr ⟨g, off, hv.1⟩
  rcases hfact with ⟨hb, hc⟩ | ⟨g, off, ha⟩
  · subst hc
    have hb : bs = [] := List.eq_nil_of_length_eq_zero (by omega)
    subst hb
    have hl0 : l = 0 := by simpa using hl
    subst hl0
    exact ⟨a, 0, rfl, H⟩
  · subst ha
    have ht := Own.tail H hl
    rw [hd] at ht
    have hlen : bs.length - l = (bs.drop l).length := by rw [List.length_drop]
    rw [hlen] at ht
    exact ⟨_, _, by rw [sliced_tail, hlen], ht⟩
structure LnA where
  bc : Nat
  bs : Nat
  ba : Nat
  bb : Nat
  aw : Option Addr
  cw : Nat
  av : Option Addr
  cv : Nat
  bd : Nat
  n : Int
structure Tys where
  TL : Nat
  TC : Nat
  TR : Nat
  TS : Nat
  TN : Nat
  TD : Nat
  TU : Nat
  TP : Nat
  TT : Nat
def lnCells (l : Ln) (x : LnA) : List Value := [.pointer (some ⟨x.bc, 0, none⟩), .pointer (some ⟨x.bs, 0, none⟩), .pointer (some ⟨x.ba, 0, none⟩), .pointer (some ⟨x.bb, 0, none⟩), .int .i64 0, .int .i64 x.n, .slice x.aw l.w.length x.cw, .slice x.av l.v.length x.cv]
def LnP (t : Tys) (fd : FuncId) (bl : Nat) (l : Ln) : HProp := Ex fun (x : LnA) => Pack (l.w.length ≤ 100000 ∧ l.v.length ≤ 100000) [blk bl (lnCells l x) t.TL, ClP t.TC t.TR x.bc l.c, SeP t.TS t.TR 0 x.bs aclL (.func (.func fd) #[.pointer (some ⟨x.bd, 0, none⟩)] #[]) l.s, ConnP t.TN x.ba l.a, ConnP t.TN x.bb l.b, OwnB (.slice x.aw l.w.length x.cw) l.w, OwnB (.slice x.av l.v.length x.cv) l.v, DeskP t.TD t.TU t.TP t.TT x.bd l.u]
theorem openLn {W0 w : World} {L : List HProp} {t : Tys} {fd : FuncId} {bl : Nat} {l : Ln} (H : On W0 (LnP t fd bl l :: L) w) : ∃ x : LnA, l.w.length ≤ 100000 ∧ l.v.length ≤ 100000 ∧ On W0 (blk bl (lnCells l x) t.TL :: ClP t.TC t.TR x.bc l.c :: SeP t.TS t.TR 0 x.bs aclL (.func (.func fd) #[.pointer (some ⟨x.bd, 0, none⟩)] #[]) l.s :: ConnP t.TN x.ba l.a :: ConnP t.TN x.bb l.b :: OwnB (.slice x.aw l.w.length x.cw) l.w :: OwnB (.slice x.av l.v.length x.cv) l.v :: DeskP t.TD t.TU t.TP t.TT x.bd l.u :: L) w := by
  obtain ⟨x, H⟩ := H.ex
  obtain ⟨hw, H⟩ := H.unpack
  exact ⟨x, hw.1, hw.2, H⟩
theorem closeLn {W0 w : World} {L : List HProp} {t : Tys} {fd : FuncId} {bl : Nat} {l : Ln} (x : LnA) (h1 : l.w.length ≤ 100000) (h2 : l.v.length ≤ 100000) (H : On W0 (blk bl (lnCells l x) t.TL :: ClP t.TC t.TR x.bc l.c :: SeP t.TS t.TR 0 x.bs aclL (.func (.func fd) #[.pointer (some ⟨x.bd, 0, none⟩)] #[]) l.s :: ConnP t.TN x.ba l.a :: ConnP t.TN x.bb l.b :: OwnB (.slice x.aw l.w.length x.cw) l.w :: OwnB (.slice x.av l.v.length x.cv) l.v :: DeskP t.TD t.TU t.TP t.TT x.bd l.u :: L) w) : On W0 (LnP t fd bl l :: L) w := On.exI x (On.pack ⟨h1, h2⟩ H)
theorem round_some {l l' : Ln} (h : l.round = some l') : ∃ o c1 c2 q, l.c.out = some (o, c1) ∧
    l.s.in_ aclL l.u (((l.a.send (l.w ++ o)).tick.outL).foldl Cn.inP (l.b.send l.v).tick.outC).inb = some q ∧
    c1.in_ ((((l.b.send l.v).tick.outL).foldl Cn.inP (l.a.send (l.w ++ o)).tick.outC).inb) = some c2 ∧
    l' = ⟨c2, q.2.1, (((l.b.send l.v).tick.outL).foldl Cn.inP (l.a.send (l.w ++ o)).tick.outC).recv, (((l.a.send (l.w ++ o)).tick.outL).foldl Cn.inP (l.b.send l.v).tick.outC).recv, (l.w ++ o).drop (l.a.sendN (l.w ++ o)), l.v.drop (l.b.sendN l.v) ++ q.1, q.2.2⟩ ∧ (l.w ++ o).length ≤ 100000 ∧ (l.v.drop (l.b.sendN l.v) ++ q.1).length ≤ 100000 := by
  unfold Ln.round at h
  cases ho : l.c.out with
  | none => rw [ho] at h; cases h
  | some oc =>
    rw [ho] at h
    obtain ⟨o, c1⟩ := oc
    simp only [Option.bind_some] at h
    split at h
    · cases h
    · rename_i h1
      cases hs : l.s.in_ aclL l.u (((l.a.send (l.w ++ o)).tick.outL).foldl Cn.inP (l.b.send l.v).tick.outC).inb with
      | none => rw [hs] at h; cases h
      | some q =>
        rw [hs] at h
        simp only [Option.bind_some] at h
        split at h
        · cases h
        · rename_i h2
          cases hc : c1.in_ ((((l.b.send l.v).tick.outL).foldl Cn.inP (l.a.send (l.w ++ o)).tick.outC).inb) with
          | none => rw [hc] at h; cases h
          | some c2 =>
            rw [hc] at h
            cases h
            exact ⟨o, c1, c2, q, rfl, hs, hc, rfl, by omega, by omega⟩
end Go.Sl.TpM
namespace Go.Proofs.YtjfmjbmkkpkppaaGreatDoor
open Go.Proofs.Tryz
open Go Go.Sl Go.Sl.BitM Go.Sl.SpM Go.Sl.RsM Go.Sl.ByM Go.Sl.UnM
set_option linter.unusedVariables false
set_option linter.unusedSimpArgs false
set_option maxHeartbeats 1000000
set_option maxRecDepth 8000
variable {W0 w : World} {L F : List HProp}
theorem unewR_ok {n : Int} {pool : PoolL} (h : On W0 L w) : Calls Tryz.prog 17 #[.int .i64 n] w (Ret fun v w' => (∃ N : Nat, n = N ∧ 1 ≤ N ∧ N ≤ 1024 ∧ ∃ (bu bs bt : Nat) (mbs : List Nat), mbs.length = 8 ∧ v = .tuple #[.pointer (some ⟨bu, 0, none⟩), .int .i64 0] ∧ On W0 (blk bu (ucells bs bt (mbs.map zG)) 108 :: SpP 151 bs (newS N) :: blk bt newT.cells 154 :: Big (GOwn pool) (mbs.map zG) :: L) w') ∨ (¬ (1 ≤ n ∧ n ≤ 1024) ∧ v = .tuple #[.pointer none, .int .i64 1] ∧ On W0 L w')) := by
  refine enter func17 rfl ntmps17 rfl (W.sr (WL.a (WL.a (WL.nil (W.sr ?_)))))
  refine WL.m (WL.e (eff_call call54 (snew_ok (n := n) h)) ?_)
  rintro _ w hv
  rcases hv with ⟨N, rfl, h1, h2b, bs, rfl, h⟩ | ⟨hno, rfl, h⟩
  ·
   refine WL.m (WL.v (run_extract rfl rfl) (WL.v (run_extract rfl rfl) (WL.a (WL.a (WL.nil (W.seq (W.seq ?_)))))))
   refine W.region (WL.m (WL.v (run_neqF rfl rfl (by decide)) (WL.nil (W.condF rfl (W.skip (W.sr ?_))))))
   refine WL.m (WL.e (eff_call call55 (rnew_ok h)) ?_)
   rintro _ w ⟨bt, rfl, h⟩
   refine WL.v (run_buildS (pl := [(0, 1), (1, 1), (2, 24)]) (out := [.pointer _, .pointer _, .slice _ _ _, .int .u64 _, .map _, .slice _ _ _, .int .u64 _, .map _, .slice _ _ _, .int .u64 _, .map _, .slice _ _ _, .int .u64 _, .map _, .slice _ _ _, .int .u64 _, .map _, .slice _ _ _, .int .u64 _, .map _, .slice _ _ _, .int .u64 _, .map _, .slice _ _ _, .int .u64 _, .map _]) underlying108 zeroValue108 (fun w => by kernel_rfl) rfl (⟨⟨_, _, rfl, rfl, by decide⟩, ⟨⟨_, _, rfl, rfl, by decide⟩, trivial⟩⟩) rfl) ?_
   refine WL.e (eff_box (v := .agg _) (l := [.pointer _, .pointer _, .slice _ _ _, .int .u64 _, .map _, .slice _ _ _, .int .u64 _, .map _, .slice _ _ _, .int .u64 _, .map _, .slice _ _ _, .int .u64 _, .map _, .slice _ _ _, .int .u64 _, .map _, .slice _ _ _, .int .u64 _, .map _, .slice _ _ _, .int .u64 _, .map _, .slice _ _ _, .int .u64 _, .map _]) h rfl rfl) ?_
   rintro _ w ⟨b19, rfl, h⟩
   refine WL.a (WL.nil (W.seq (W.sr (WL.m (WL.nil (W.block ?_))))))
   refine W.loop (fun (k : Nat) env w => k ≤ 8 ∧ ∃ (j : Env) (mbs : List Nat), mbs.length = k ∧ env = mkE j [(6, .pointer (some ⟨b19, 0, none⟩)), (20, .int .i64 (k : Int))] ∧ On W0 (blk b19 (ncells bs bt (mbs.map zG) (8 - k)) 108 :: SpP 151 bs (newS N) :: blk bt newT.cells 154 :: Big (GOwn pool) (mbs.map zG) :: L) w) (fun k => 8 - k) (0) ?_ ?_
   · have h : On W0 (Big (GOwn pool) (([] : List Nat).map zG) :: blk b19 (ncells bs bt (([] : List Nat).map zG) (8 - 0)) 108 :: _) w := Big.nil h
     exact ⟨Nat.zero_le _, _, [], rfl, mkE_of ⟨rfl, rfl, trivial⟩, h.to⟩
   rintro k env w ⟨hk8, j, mbs, hml, rfl, h⟩
   have hgl : (mbs.map zG).length = k := by rw [List.length_map, hml]
   refine W.sr (WL.v (run_lss rfl rfl) (WL.nil (W.seq ?_)))
   refine W.condIf rfl (fun c12 => ?_) (fun c12 => ?_)
   ·
    refine W.skip (W.seq (W.block (W.seq ?_)))
    have h8k : 8 - k = 8 - (k + 1) + 1 := by omega
    rw [h8k] at h
    refine W.region (WL.m (WL.a (WL.nil (W.region (WL.m (WL.m (WL.e (eff_makeMap (kd := .u64) h) ?_)))))))
    rintro _ w ⟨b25, rfl, h⟩
    refine WL.n rfl (WL.f 2 underlying108 rfl sizeOf106 rfl rfl (WL.v (run_indexAddrArr underlying106 sizeOf105 rfl rfl (by omega) (by omega)) (WL.f 2 underlying105 rfl sizeOf103 rfl rfl (WL.e (eff_store (v := .map (some b25)) h sizeOf103 rfl rfl rfl (nlt (bs := bs) (bt := bt) hgl) (free0 _)) ?_))))
    rintro _ w h
    rw [nset (bs := bs) (bt := bt) hgl] at h
    have h := zG_own (pool := pool) (h.fetch (MapC b25 .u64 [] 0))
    have h := Big.push ((h.fetch (Big (GOwn pool) (mbs.map zG))).fetch (GOwn pool (zG b25)))
    rw [show mbs.map zG ++ [zG b25] = (mbs ++ [b25]).map zG by rw [List.map_append]; rfl] at h
    refine WL.nil (W.region (WL.v (run_incN rfl rfl (by omega)) (WL.m (WL.nil ?_))))
    exact ⟨k + 1, ⟨by omega, _, mbs ++ [b25], by rw [List.length_append, hml]; rfl, mkE_of ⟨rfl, rfl, trivial⟩, h.to⟩, by show 8 - (k + 1) < 8 - k; omega⟩
   refine W.exit (W.sr (WL.m (WL.a (WL.a (WL.nil (W.ret ?_))))))
   refine bodyQ.r2 (v1 := .pointer _) (v2 := .int .i64 _) results17 rfl rfl ?_
   have ob_ : k = 8 := by omega
   obtain rfl := ob_
   have h2 : On W0 (blk b19 (ucells bs bt (mbs.map zG)) 108 :: SpP 151 bs (newS N) :: blk bt newT.cells 154 :: Big (GOwn pool) (mbs.map zG) :: L) w := by
     have e : ncells bs bt (mbs.map zG) (8 - 8) = ucells bs bt (mbs.map zG) := by show _ :: _ :: ((mbs.map zG).flatMap GX.row ++ []) = _; rw [List.append_nil]
     rw [e] at h
     exact h
   exact .inl ⟨N, rfl, h1, h2b, b19, bs, bt, mbs, hml, rfl, h2⟩
  refine WL.m (WL.v (run_extract rfl rfl) (WL.v (run_extract rfl rfl) (WL.a (WL.a (WL.nil (W.seq (W.seq ?_)))))))
  refine W.region (WL.m (WL.v (run_neqT rfl rfl (by decide)) (WL.nil (W.condT rfl (W.sr (WL.m ?_))))))
  refine WL.a (WL.a (WL.nil (W.ret (bodyQ.r2 (v1 := .pointer _) (v2 := .int .i64 _) results17 rfl rfl ?_))))
  exact .inr ⟨hno, rfl, h⟩
theorem unew_ok {n : Int} {pool : PoolL} (h : On W0 L w) : Calls Tryz.prog 17 #[.int .i64 n] w (Ret fun v w' => (∃ N : Nat, n = N ∧ 1 ≤ N ∧ N ≤ 1024 ∧ ∃ bu ms, v = .tuple #[.pointer (some ⟨bu, 0, none⟩), .int .i64 0] ∧ On W0 (UnP 108 151 154 bu pool ms (newU N) :: L) w') ∨ (¬ (1 ≤ n ∧ n ≤ 1024) ∧ v = .tuple #[.pointer none, .int .i64 1] ∧ On W0 L w')) := by
  skip
  exact (unewR_ok (pool := pool) h).mono fun e w' he => by
    obtain ⟨v, he, hv⟩ := he
    refine ⟨v, he, ?_⟩
    rcases hv with ⟨N, hN, h1, h2, bu, bs, bt, mbs, hml, hv, h⟩ | hv
    · refine .inl ⟨N, hN, h1, h2, bu, _, hv, closeU (u := newU N) ⟨?_, rfl⟩ rfl h⟩
      rw [List.map_map]
      show mbs.map (fun _ => (⟨[], 0, []⟩ : Gs)) = List.replicate 8 ⟨[], 0, []⟩
      rw [List.map_const', hml]
    · exact .inr hv
end Go.Proofs.YtjfmjbmkkpkppaaGreatDoor
