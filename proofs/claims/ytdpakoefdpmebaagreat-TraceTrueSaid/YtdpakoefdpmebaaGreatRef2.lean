/-
  The document's unit: reservations: the contracts. Lines of walks printed by a program of the prover's.
-/
import Derived.Test.YtdpakoefdpmebaaGreatRef1
namespace Go.Proofs.YtdpakoefdpmebaaGreat
open Go Go.Sl Go.Sl.BitM Go.Sl.SpM Go.Sl.RsM Go.Sl.ByM Go.Sl.UnM
set_option linter.unusedVariables false
set_option linter.unusedSimpArgs false
set_option maxHeartbeats 1000000
set_option maxRecDepth 8000
variable {W0 w : World} {L F : List HProp}


theorem told_put {t : Tb} {i : Nat} {x : Int} : (t.put i x).inc.told i = t.told i := by
  unfold Tb.told
  have e1 : (t.put i x).inc.regsB = t.regsB := rfl
  rw [e1]
  split
  · show hostsN (fun j => if j = i then x else t.K j) i (fun _ => true) 8 = _
    unfold hostsN
    refine List.filter_congr fun j hj => ?_
    by_cases e : j = i
    · subst e; simp
    · simp [e]
  · rfl
theorem regs5 {t : Tb} (hty : t.typ ≤ 6) : t.regsB = decide (5 ≤ t.typ) := by
  unfold Tb.regsB
  by_cases h : 5 ≤ t.typ
  · rw [decide_eq_true h]
    rcases (show t.typ = 5 ∨ t.typ = 6 by omega) with e | e <;> rw [e] <;> rfl
  · rw [decide_eq_false h, decide_eq_false (by omega), decide_eq_false (by omega)]; rfl
theorem On.zer0 {t : Tb} {b e : Nat} {l : List Nat} (h : On W0 (blk b t.cells e :: L) w) : On W0 (blk b (zer t (l.take 0)).cells e :: L) w := by rw [List.take_zero, zer_nil]; exact h
theorem goodT_le {t : Tb} (h : goodT t) : t.typ ≤ 6 := by
  rcases h.2 with ⟨_, h2⟩ | ⟨_, _, _, h2⟩
  · omega
  · have := typedB_iff.1 h2; omega

theorem rtnew_ok (h : On W0 L w) : Calls Tryz.prog 47 #[] w (Ret fun v w' => ∃ b, v = .pointer (some ⟨b, 0, none⟩) ∧ On W0 (blk b newT.cells 128 :: L) w') := by
  refine enter Tryz.func47 rfl Tryz.ntmps47 rfl (W.seq (W.region (WL.val run_assign rfl rfl (WL.nil (W.seq (W.region (WL.val (run_buildS (pl := [(0, 8), (8, 1), (9, 1), (10, 1)]) (out := [.int .u64 _, .int .u64 _, .int .u64 _, .int .u64 _, .int .u64 _, .int .u64 _, .int .u64 _, .int .u64 _, .int .i64 _, .int .i64 _, .int .u32 _]) Tryz.underlying128 Tryz.zeroValue128 (fun w => by kernel_rfl) rfl (⟨⟨_, _, rfl, rfl, by decide⟩, trivial⟩) rfl) rfl rfl ?_)))))))
  refine WL.eff (eff_box (v := .agg _) (l := [.int .u64 _, .int .u64 _, .int .u64 _, .int .u64 _, .int .u64 _, .int .u64 _, .int .u64 _, .int .u64 _, .int .i64 _, .int .i64 _, .int .u32 _]) h rfl rfl) rfl rfl ?_
  rintro _ w ⟨b2, rfl, h⟩
  refine WL.val run_assign rfl rfl (WL.nil (W.ret (bodyQ.r1 (v := .pointer _) Tryz.results47 rfl ?_)))
  exact ⟨_, rfl, h⟩

theorem rconflict_ok (h : On W0 L w) : Calls Tryz.prog 121 #[] w (Ret fun v w' => v = rep 24 0 0 ∧ On W0 L w') := by
  refine enter Tryz.func121 rfl Tryz.ntmps121 rfl (W.seq (W.region (WL.eff (eff_alloc h Tryz.zeroValue36 rfl) rfl rfl ?_)))
  rintro _ w ⟨b0, rfl, h⟩
  refine WL.nil (W.seq (W.region (WL.val (run_buildS (pl := [(0, 1), (1, 1), (2, 1), (3, 1), (4, 1)]) (out := [.int .i64 _, .int .i64 _, .int .i64 _, .slice _ _ _, .int .i64 _]) Tryz.underlying36 Tryz.zeroValue36 (fun w => by kernel_rfl) rfl (⟨⟨_, _, rfl, rfl, by decide⟩, trivial⟩) rfl) rfl rfl (WL.eff (eff_storeW (vs := [.int .i64 _, .int .i64 _, .int .i64 _, .slice _ _ _, .int .i64 _]) h Tryz.sizeOf36 rfl rfl rfl rfl rfl) rfl rfl ?_))))
  rintro _ w h
  refine WL.nil (W.ret (bodyQ.rcB (vs := [.int .i64 _, .int .i64 _, .int .i64 _, .slice _ _ _, .int .i64 _]) h Tryz.results121 Tryz.isAgg36 Tryz.sizeOf36 rfl rfl rfl ?_))
  exact ⟨rfl, h.tail⟩

theorem rgood_ok (h : On W0 L w) : Calls Tryz.prog 122 #[] w (Ret fun v w' => v = rep 0 0 0 ∧ On W0 L w') := by
  refine enter Tryz.func122 rfl Tryz.ntmps122 rfl (W.seq (W.region (WL.eff (eff_alloc h Tryz.zeroValue36 rfl) rfl rfl ?_)))
  rintro _ w ⟨b0, rfl, h⟩
  refine WL.nil (W.seq (W.region (WL.val (run_buildS (pl := [(0, 1), (1, 1), (2, 1), (3, 1), (4, 1)]) (out := [.int .i64 _, .int .i64 _, .int .i64 _, .slice _ _ _, .int .i64 _]) Tryz.underlying36 Tryz.zeroValue36 (fun w => by kernel_rfl) rfl (trivial) rfl) rfl rfl (WL.eff (eff_storeW (vs := [.int .i64 _, .int .i64 _, .int .i64 _, .slice _ _ _, .int .i64 _]) h Tryz.sizeOf36 rfl rfl rfl rfl rfl) rfl rfl ?_))))
  rintro _ w h
  refine WL.nil (W.ret (bodyQ.rcB (vs := [.int .i64 _, .int .i64 _, .int .i64 _, .slice _ _ _, .int .i64 _]) h Tryz.results122 Tryz.isAgg36 Tryz.sizeOf36 rfl rfl rfl ?_))
  exact ⟨rfl, h.tail⟩

theorem rwrong_ok {y : Int} (h : On W0 L w) : Calls Tryz.prog 120 #[.int .i64 y] w (Ret fun v w' => v = rep 2 5 y ∧ On W0 L w') := by
  refine enter Tryz.func120 rfl Tryz.ntmps120 rfl (W.seq (W.region (WL.eff (eff_alloc h Tryz.zeroValue36 rfl) rfl rfl ?_)))
  rintro _ w ⟨b2, rfl, h⟩
  refine WL.nil (W.seq (W.region (WL.val run_move rfl rfl (WL.val (run_buildS (pl := [(0, 1), (1, 1), (2, 1), (3, 1), (4, 1)]) (out := [.int .i64 _, .int .i64 _, .int .i64 _, .slice _ _ _, .int .i64 _]) Tryz.underlying36 Tryz.zeroValue36 (fun w => by kernel_rfl) rfl (⟨⟨_, _, rfl, rfl, by decide⟩, ⟨⟨_, _, rfl, rfl, by decide⟩, ⟨⟨_, _, rfl, rfl, by decide⟩, trivial⟩⟩⟩) rfl) rfl rfl (WL.eff (eff_storeW (vs := [.int .i64 _, .int .i64 _, .int .i64 _, .slice _ _ _, .int .i64 _]) h Tryz.sizeOf36 rfl rfl rfl rfl rfl) rfl rfl ?_)))))
  rintro _ w h
  refine WL.nil (W.ret (bodyQ.rcB (vs := [.int .i64 _, .int .i64 _, .int .i64 _, .slice _ _ _, .int .i64 _]) h Tryz.results120 Tryz.isAgg36 Tryz.sizeOf36 rfl rfl rfl ?_))
  exact ⟨rfl, h.tail⟩

theorem ris_ok {x : Int} (h : On W0 L w) : Calls Tryz.prog 125 #[.int .i64 x] w (Ret fun v w' => v = .bool (typedB x) ∧ On W0 L w') := by
  refine enter Tryz.func125 rfl Tryz.ntmps125 rfl (W.seq (W.region (WL.val run_assign rfl rfl (WL.nil (W.seq (W.region (WL.val run_move rfl rfl ?_)))))))
  refine WL.dec (run_eql rfl rfl) rfl rfl (fun c4 => ?_) (fun c4 => ?_)
  ·
   refine WL.val run_move rfl rfl (WL.skip rfl rfl (WL.skip rfl rfl (WL.val (run_pickT rfl) rfl rfl (WL.val run_move rfl rfl (WL.skip rfl rfl (WL.skip rfl rfl (WL.val (run_pickT rfl) rfl rfl ?_)))))))
   refine WL.val run_move rfl rfl (WL.skip rfl rfl (WL.skip rfl rfl (WL.val (run_pickT rfl) rfl rfl (WL.val run_assign rfl rfl (WL.nil (W.ret (bodyQ.r1 (v := .bool _) Tryz.results125 rfl ?_)))))))
   exact ⟨by rw [typedB_iff.2 (by omega)], h⟩
  refine WL.val run_move rfl rfl (WL.val run_move rfl rfl ?_)
  refine WL.dec (run_eql rfl rfl) rfl rfl (fun c7 => ?_) (fun c7 => ?_)
  ·
   refine WL.val (run_pickF rfl) rfl rfl (WL.val run_move rfl rfl (WL.skip rfl rfl (WL.skip rfl rfl (WL.val (run_pickT rfl) rfl rfl (WL.val run_move rfl rfl (WL.skip rfl rfl (WL.skip rfl rfl ?_)))))))
   refine WL.val (run_pickT rfl) rfl rfl (WL.val run_assign rfl rfl (WL.nil (W.ret (bodyQ.r1 (v := .bool _) Tryz.results125 rfl ?_))))
   exact ⟨by rw [typedB_iff.2 (by omega)], h⟩
  refine WL.val (run_pickF rfl) rfl rfl (WL.val run_move rfl rfl (WL.val run_move rfl rfl ?_))
  refine WL.dec (run_eql rfl rfl) rfl rfl (fun c11 => ?_) (fun c11 => ?_)
  ·
   refine WL.val (run_pickF rfl) rfl rfl (WL.val run_move rfl rfl (WL.skip rfl rfl (WL.skip rfl rfl (WL.val (run_pickT rfl) rfl rfl (WL.val run_assign rfl rfl (WL.nil (W.ret ?_)))))))
   refine bodyQ.r1 (v := .bool _) Tryz.results125 rfl ?_
   exact ⟨by rw [typedB_iff.2 (by omega)], h⟩
  refine WL.val (run_pickF rfl) rfl rfl (WL.val run_move rfl rfl (WL.val run_move rfl rfl ?_))
  refine WL.dec (run_eql rfl rfl) rfl rfl (fun c15 => ?_) (fun c15 => ?_)
  ·
   refine WL.val (run_pickF rfl) rfl rfl (WL.val run_assign rfl rfl (WL.nil (W.ret (bodyQ.r1 (v := .bool _) Tryz.results125 rfl ?_))))
   exact ⟨by rw [typedB_iff.2 (by omega)], h⟩
  refine WL.val (run_pickF rfl) rfl rfl (WL.val run_assign rfl rfl (WL.nil (W.ret (bodyQ.r1 (v := .bool _) Tryz.results125 rfl ?_))))
  exact ⟨by rw [typedB_no.2 (by omega)], h⟩

theorem rno_ok {x : Int} (h : On W0 L w) : Calls Tryz.prog 114 #[.int .i64 x] w (Ret fun v w' => ((hostB x = false ∧ v = .bool true) ∨ (hostB x = true ∧ v = .bool false)) ∧ On W0 L w') := by
  refine enter Tryz.func114 rfl Tryz.ntmps114 rfl (W.seq (W.region (WL.val run_assign rfl rfl (WL.nil (W.seq (W.region (WL.val run_move rfl rfl ?_)))))))
  refine WL.dec (run_lss rfl rfl) rfl rfl (fun c4 => ?_) (fun c4 => ?_)
  ·
   refine WL.val run_move rfl rfl (WL.skip rfl rfl (WL.skip rfl rfl (WL.val (run_pickT rfl) rfl rfl (WL.val run_assign rfl rfl (WL.nil (W.ret (bodyQ.r1 (v := .bool _) Tryz.results114 rfl ?_)))))))
   exact ⟨.inl ⟨hostB_no.2 (by omega), rfl⟩, h⟩
  refine WL.val run_move rfl rfl (WL.val run_move rfl rfl ?_)
  refine WL.dec (run_geq rfl rfl) rfl rfl (fun c7 => ?_) (fun c7 => ?_)
  ·
   refine WL.val (run_pickF rfl) rfl rfl (WL.val run_assign rfl rfl (WL.nil (W.ret (bodyQ.r1 (v := .bool _) Tryz.results114 rfl ?_))))
   exact ⟨.inl ⟨hostB_no.2 (by omega), rfl⟩, h⟩
  refine WL.val (run_pickF rfl) rfl rfl (WL.val run_assign rfl rfl (WL.nil (W.ret (bodyQ.r1 (v := .bool _) Tryz.results114 rfl ?_))))
  exact ⟨.inr ⟨hostB_iff.2 ⟨by omega, by omega⟩, rfl⟩, h⟩

theorem rothers_ok {b i : Nat} {t : Tb} {code : Int} (h : On W0 (blk b t.cells 128 :: L) w) : Calls Tryz.prog 126 #[.pointer (some ⟨b, 0, none⟩), .int .i64 (i : Int), .int .i64 code] w (Ret fun v w' => ∃ a c, v = .slice a (hostsN t.K i (fun _ => true) 8).length c ∧ On W0 (Own 2 (.slice a (hostsN t.K i (fun _ => true) 8).length c) (hostsN t.K i (fun _ => true) 8).length (notesV code ((hostsN t.K i (fun _ => true) 8))) :: blk b t.cells 128 :: L) w') := by
  refine enter Tryz.func126 rfl Tryz.ntmps126 rfl ?_
  have hmx := maxLen_eq
  refine W.seq (W.region (WL.val run_assign rfl rfl (WL.nil (W.seq (W.region (WL.val run_assign rfl rfl (WL.nil ?_)))))))
  refine W.seq (W.seq (W.region (WL.val run_assign rfl rfl (WL.nil (W.block ?_)))))
  refine W.loop (fun (k : Nat) env w => ∃ (j : Env) (a : Option Addr) (c : Nat), env = mkE j [(0, .pointer (some ⟨b, 0, none⟩)), (1, .int .i64 (i : Int)), (2, .int .i64 code), (7, .slice a (hostsN t.K i (fun _ => true) k).length c), (8, .int .i64 (k : Int))] ∧ k ≤ 8 ∧ On W0 (Own 2 (.slice a (hostsN t.K i (fun _ => true) k).length c) (hostsN t.K i (fun _ => true) k).length (notesV code ((hostsN t.K i (fun _ => true) k))) :: blk b t.cells 128 :: L) w) (fun k => 8 - k) (0) ?_ ?_
  · exact ⟨_, none, 0, mkE_of ⟨rfl, rfl, rfl, rfl, rfl, trivial⟩, Nat.zero_le _, h.ownEmpty 2 none⟩
  rintro k env w ⟨j, a, c, rfl, hk, h⟩
  have hlen := hostsN_len t.K i (fun _ => true) k
  refine W.seq (W.seq (W.region (WL.val run_move rfl rfl (WL.val (run_lss rfl rfl) rfl rfl (WL.nil ?_)))))
  refine W.condIf rfl (fun c6 => ?_) (fun c6 => ?_)
  ·
   refine W.skip (W.seq (W.block (W.seq (W.region (WL.val run_move rfl rfl (WL.val run_move rfl rfl ?_))))))
   refine WL.dec (run_neq rfl rfl) rfl rfl (fun c15 => ?_) (fun c15 => ?_)
   ·
    refine WL.val run_move rfl rfl (WL.val run_move rfl rfl (WL.val run_move rfl rfl (WL.val (run_nilCheck rfl) rfl rfl (WL.val (run_fieldAddr 0 Tryz.underlying128 rfl Tryz.sizeOf102 rfl rfl) rfl rfl (WL.val (run_indexAddrArr Tryz.underlying102 Tryz.sizeOf23 rfl rfl (by omega) (by omega)) rfl rfl (WL.val (run_load1 Tryz.isAgg23 rfl (h.cellB (cells_at (i := k) (by omega)))) rfl rfl (WL.val (run_neq rfl rfl) rfl rfl ?_)))))))
    refine WL.val (run_pickT rfl) rfl rfl (WL.nil ?_)
    refine W.condIf rfl (fun c11 => ?_) (fun c11 => ?_)
    ·
     refine W.region (WL.val run_move rfl rfl (WL.val run_move rfl rfl (WL.val run_move rfl rfl (WL.val (run_buildS (pl := [(0, 1), (1, 1)]) (out := [.int .i64 _, .int .i64 _]) Tryz.underlying187 Tryz.zeroValue187 (fun w => by kernel_rfl) rfl (⟨⟨_, _, rfl, rfl, by decide⟩, ⟨⟨_, _, rfl, rfl, by decide⟩, trivial⟩⟩) rfl) rfl rfl (WL.eff (eff_mkSlice (zl := [.int .i64 0, .int .i64 0]) (out := [.int .i64 _, .int .i64 _]) h Tryz.underlying117 Tryz.sizeOf187 Tryz.zeroValue187 (by decide) (by kernel_rfl) rfl rfl (by simp) (⟨⟨_, _, rfl, rfl, by decide⟩, trivial⟩) rfl rfl (by simp [maxLen])) rfl rfl ?_)))))
     rintro _ w ⟨b29, rfl, h⟩
     refine WL.eff (eff_app (c2 := 1) (bytes := 16) (h.fetch (Own 2 (.slice a (hostsN t.K i (fun _ => true) k).length c) (hostsN t.K i (fun _ => true) k).length (notesV code ((hostsN t.K i (fun _ => true) k))))) rfl rfl (h.cellsO (v := .slice (some ⟨b29, 0, none⟩) 1 1)) Tryz.underlying117 rfl rfl rfl rfl rfl (by omega) (by omega) (by simp [Value.oneCell'])) rfl rfl ?_
     rintro _ w ⟨a30, c30, rfl, h⟩
     have h : On W0 (Own 2 (.slice a30 ((hostsN t.K i (fun _ => true) k).length + 1) c30) ((hostsN t.K i (fun _ => true) k).length + 1) (notesV code (hostsN t.K i (fun _ => true) k) ++ noteV code k) :: _) w := h
     refine WL.val run_assign rfl rfl (WL.nil (W.region (WL.val run_move rfl rfl (WL.val (run_incN rfl rfl (by omega)) rfl rfl (WL.val run_assign rfl rfl (WL.nil ?_))))))
     have e : (hostsN t.K i (fun _ => true) (k + 1)) = (hostsN t.K i (fun _ => true) k) ++ [k] := by rw [hostsN_succ, if_neg (by rintro (h1 | h1 | h1); exact c15 h1; exact c11 h1; cases h1)]
     have el : ((hostsN t.K i (fun _ => true) (k + 1))).length = ((hostsN t.K i (fun _ => true) k)).length + 1 := by rw [e, List.length_append]; rfl
     exact ⟨k + 1, ⟨_, a30, c30, mkE_of ⟨rfl, rfl, rfl, (by rw [el]; rfl), rfl, trivial⟩, by omega, (by rw [el, e, ← notesV_snoc]; exact h.to)⟩, by show 8 - (k + 1) < 8 - k; omega⟩
    refine W.skip (W.region (WL.val run_move rfl rfl (WL.val (run_incN rfl rfl (by omega)) rfl rfl (WL.val run_assign rfl rfl (WL.nil ?_)))))
    have e : (hostsN t.K i (fun _ => true) (k + 1)) = (hostsN t.K i (fun _ => true) k) := by rw [hostsN_succ, if_pos (.inr (.inl (by omega))), List.append_nil]
    exact ⟨k + 1, ⟨_, a, c, mkE_of ⟨rfl, rfl, rfl, (by rw [e]; rfl), rfl, trivial⟩, by omega, (by rw [e]; exact h.to)⟩, by show 8 - (k + 1) < 8 - k; omega⟩
   refine WL.val run_move rfl rfl (WL.skip rfl rfl (WL.skip rfl rfl (WL.skip rfl rfl (WL.skip rfl rfl (WL.skip rfl rfl (WL.skip rfl rfl (WL.skip rfl rfl ?_)))))))
   refine WL.val (run_pickF rfl) rfl rfl (WL.nil (W.condF rfl (W.skip (W.region (WL.val run_move rfl rfl (WL.val (run_incN rfl rfl (by omega)) rfl rfl (WL.val run_assign rfl rfl ?_)))))))
   refine WL.nil ?_
   have e : (hostsN t.K i (fun _ => true) (k + 1)) = (hostsN t.K i (fun _ => true) k) := by rw [hostsN_succ, if_pos (.inl (by omega)), List.append_nil]
   exact ⟨k + 1, ⟨_, a, c, mkE_of ⟨rfl, rfl, rfl, (by rw [e]; rfl), rfl, trivial⟩, by omega, (by rw [e]; exact h.to)⟩, by show 8 - (k + 1) < 8 - k; omega⟩
  refine W.exit (W.seq (W.region (WL.val run_move rfl rfl (WL.val run_assign rfl rfl (WL.nil (W.ret (bodyQ.r1 (v := .slice _ _ _) Tryz.results126 rfl ?_)))))))
  have ob_ : k = 8 := by omega
  obtain rfl := ob_
  exact ⟨a, c, rfl, h⟩

theorem rfree_ok {b i : Nat} {t : Tb} (hty : t.typ ≤ 6) (h : On W0 (blk b t.cells 128 :: L) w) : Calls Tryz.prog 123 #[.pointer (some ⟨b, 0, none⟩), .int .i64 (i : Int)] w (Ret fun v w' => ∃ a c, v = .slice a (t.told i).length c ∧ On W0 (Own 2 (.slice a (t.told i).length c) (t.told i).length (notesV 10756 (t.told i)) :: blk b t.freed.cells 128 :: L) w') := by
  refine enter Tryz.func123 rfl Tryz.ntmps123 rfl (W.seq (W.region (WL.val run_assign rfl rfl (WL.nil (W.seq (W.region (WL.val run_assign rfl rfl ?_)))))))
  refine WL.nil (W.seq (W.seq (W.region (WL.val run_move rfl rfl (WL.val (run_nilCheck rfl) rfl rfl (WL.val (run_fieldAddr 9 Tryz.underlying128 rfl Tryz.sizeOf3 rfl rfl) rfl rfl (WL.val (run_load1 Tryz.isAgg3 rfl (h.cellB rfl)) rfl rfl ?_)))))))
  refine WL.val (run_geq rfl rfl) rfl rfl (WL.nil ?_)
  refine W.condIf rfl (fun c3 => ?_) (fun c3 => ?_)
  ·
   refine W.region (WL.val run_move rfl rfl (WL.val run_move rfl rfl (WL.eff (eff_call Tryz.call126 (rothers_ok (i := i) (code := 10756) h)) rfl rfl ?_)))
   rintro _ w ⟨a, c, rfl, h⟩
   have e : t.told i = hostsN t.K i (fun _ => true) 8 := by unfold Tb.told; rw [if_pos (by rw [regs5 hty]; exact decide_eq_true (by omega))]
   rw [← e] at h
   have h := h.fetch (blk b t.cells 128)
   refine WL.val run_assign rfl rfl (WL.nil (W.seq (W.region (WL.val run_move rfl rfl (WL.val (run_nilCheck rfl) rfl rfl (WL.val (run_fieldAddr 8 Tryz.underlying128 rfl Tryz.sizeOf3 rfl rfl) rfl rfl (WL.eff (eff_store (v := .int .i64 _) h Tryz.sizeOf3 rfl rfl rfl rfl rfl) rfl rfl ?_)))))))
   rintro _ w h
   try simp only [Nat.zero_add, Nat.add_zero, List.set_cons_zero, List.set_cons_succ] at h
   refine WL.nil (W.seq (W.region (WL.val run_move rfl rfl (WL.val (run_nilCheck rfl) rfl rfl (WL.val (run_fieldAddr 9 Tryz.underlying128 rfl Tryz.sizeOf3 rfl rfl) rfl rfl (WL.eff (eff_store (v := .int .i64 _) h Tryz.sizeOf3 rfl rfl rfl rfl rfl) rfl rfl ?_))))))
   rintro _ w h
   try simp only [Nat.zero_add, Nat.add_zero, List.set_cons_zero, List.set_cons_succ] at h
   refine WL.nil (W.seq ?_)
   have h : On W0 (blk b t.freed.cells 128 :: _) w := h
   refine W.region (WL.val run_move rfl rfl (WL.val run_assign rfl rfl (WL.nil (W.ret (bodyQ.r1 (v := .slice _ _ _) Tryz.results123 rfl ?_)))))
   exact ⟨a, c, by rw [e], h.to⟩
  have e : t.told i = [] := by unfold Tb.told; rw [if_neg (by rw [regs5 hty]; simp; omega)]
  refine W.skip (W.seq (W.region (WL.val run_move rfl rfl (WL.val (run_nilCheck rfl) rfl rfl (WL.val (run_fieldAddr 8 Tryz.underlying128 rfl Tryz.sizeOf3 rfl rfl) rfl rfl (WL.eff (eff_store (v := .int .i64 _) h Tryz.sizeOf3 rfl rfl rfl rfl rfl) rfl rfl ?_))))))
  rintro _ w h
  try simp only [Nat.zero_add, Nat.add_zero, List.set_cons_zero, List.set_cons_succ] at h
  refine WL.nil (W.seq (W.region (WL.val run_move rfl rfl (WL.val (run_nilCheck rfl) rfl rfl (WL.val (run_fieldAddr 9 Tryz.underlying128 rfl Tryz.sizeOf3 rfl rfl) rfl rfl (WL.eff (eff_store (v := .int .i64 _) h Tryz.sizeOf3 rfl rfl rfl rfl rfl) rfl rfl ?_))))))
  rintro _ w h
  try simp only [Nat.zero_add, Nat.add_zero, List.set_cons_zero, List.set_cons_succ] at h
  refine WL.nil (W.seq ?_)
  have h : On W0 (blk b t.freed.cells 128 :: _) w := h
  refine W.region (WL.val run_move rfl rfl (WL.val run_assign rfl rfl (WL.nil (W.ret (bodyQ.r1 (v := .slice _ _ _) Tryz.results123 rfl ?_)))))
  rw [e]
  have h : On W0 (Own 2 (.slice none ([] : List Nat).length 0) ([] : List Nat).length (notesV 10756 []) :: _) w := h.ownEmpty 2 none
  exact ⟨none, 0, rfl, h.to⟩

theorem rnot_ok {b i : Nat} {t : Tb} {key : Int} (hi : i < 8) (h : On W0 (blk b t.cells 128 :: L) w) : Calls Tryz.prog 124 #[.pointer (some ⟨b, 0, none⟩), .int .i64 (i : Int), .int .u64 key] w (Ret fun v w' => ((okKB t i key = false ∧ v = .bool true) ∨ (okKB t i key = true ∧ v = .bool false)) ∧ On W0 (blk b t.cells 128 :: L) w') := by
  refine enter Tryz.func124 rfl Tryz.ntmps124 rfl (W.seq (W.region (WL.val run_assign rfl rfl (WL.nil (W.seq (W.region (WL.val run_move rfl rfl ?_)))))))
  refine WL.val run_move rfl rfl (WL.val (run_nilCheck rfl) rfl rfl (WL.val (run_fieldAddr 0 Tryz.underlying128 rfl Tryz.sizeOf102 rfl rfl) rfl rfl (WL.val (run_indexAddrArr Tryz.underlying102 Tryz.sizeOf23 rfl rfl (by omega) (by omega)) rfl rfl (WL.val (run_load1 Tryz.isAgg23 rfl (h.cellB (cells_at hi))) rfl rfl ?_))))
  refine WL.dec (run_eql rfl rfl) rfl rfl (fun c13 => ?_) (fun c13 => ?_)
  ·
   refine WL.val run_move rfl rfl (WL.skip rfl rfl (WL.skip rfl rfl (WL.skip rfl rfl (WL.skip rfl rfl (WL.skip rfl rfl (WL.skip rfl rfl (WL.skip rfl rfl ?_)))))))
   refine WL.skip rfl rfl (WL.val (run_pickT rfl) rfl rfl (WL.val run_assign rfl rfl (WL.nil (W.ret (bodyQ.r1 (v := .bool _) Tryz.results124 rfl ?_)))))
   exact ⟨.inl ⟨by unfold okKB; simp only [decide_eq_true (show t.K i = 0 by omega)]; rfl, rfl⟩, h⟩
  refine WL.val run_move rfl rfl (WL.val run_move rfl rfl (WL.val run_move rfl rfl (WL.val (run_nilCheck rfl) rfl rfl (WL.val (run_fieldAddr 0 Tryz.underlying128 rfl Tryz.sizeOf102 rfl rfl) rfl rfl (WL.val (run_indexAddrArr Tryz.underlying102 Tryz.sizeOf23 rfl rfl (by omega) (by omega)) rfl rfl (WL.val (run_load1 Tryz.isAgg23 rfl (h.cellB (cells_at hi))) rfl rfl (WL.val run_move rfl rfl ?_)))))))
  refine WL.dec (run_neq rfl rfl) rfl rfl (fun c22 => ?_) (fun c22 => ?_)
  ·
   refine WL.val (run_pickF rfl) rfl rfl (WL.val run_assign rfl rfl (WL.nil (W.ret (bodyQ.r1 (v := .bool _) Tryz.results124 rfl ?_))))
   exact ⟨.inl ⟨by unfold okKB; rw [decide_eq_false (show ¬ t.K i = key by omega), Bool.and_false], rfl⟩, h⟩
  refine WL.val (run_pickF rfl) rfl rfl (WL.val run_assign rfl rfl (WL.nil (W.ret (bodyQ.r1 (v := .bool _) Tryz.results124 rfl ?_))))
  exact ⟨.inr ⟨by unfold okKB; rw [decide_eq_false (show ¬ t.K i = 0 by omega), decide_eq_true (show t.K i = key by omega)]; rfl, rfl⟩, h⟩

theorem rregister_ok {b i : Nat} {t : Tb} {key fresh : Int} {ign : Bool} (hi : i < 8) (hty6 : t.typ ≤ 6) (h : On W0 (blk b t.cells 128 :: L) w) : Calls Tryz.prog 62 #[.pointer (some ⟨b, 0, none⟩), .int .i64 (i : Int), .int .u64 key, .int .u64 fresh, .bool ign] w (Ret fun v w' => ∃ a c, v = .tuple #[(regF t i key fresh ign).r.val (.slice none 0 0), .slice a (regF t i key fresh ign).l.length c] ∧ On W0 (Own 2 (.slice a (regF t i key fresh ign).l.length c) (regF t i key fresh ign).l.length (notesV (regF t i key fresh ign).code ((regF t i key fresh ign).l)) :: blk b (regF t i key fresh ign).t.cells 128 :: L) w') := by
  refine enter Tryz.func62 rfl Tryz.ntmps62 rfl (W.seq (W.region (WL.eff (eff_alloc h Tryz.zeroValue36 rfl) rfl rfl ?_)))
  rintro _ w ⟨b10, rfl, h⟩
  refine WL.val run_assign rfl rfl (WL.nil (W.seq (W.seq (W.region (WL.val run_move rfl rfl (WL.eff (eff_call Tryz.call114 (rno_ok h)) rfl rfl ?_))))))
  rintro _ w ⟨hv, h⟩
  rcases hv with ⟨hb_, _⟩ | ⟨_, hv⟩
  · rw [hostB_iff.2 ⟨by omega, by omega⟩] at hb_; cases hb_
  subst hv
  refine WL.nil (W.condF rfl (W.skip (W.seq (W.seq (W.region (WL.val run_move rfl rfl ?_))))))
  refine WL.boolB (run_not rfl) rfl rfl (fun c16 => ?_) (fun c16 => ?_)
  ·
   refine WL.val run_move rfl rfl (WL.val run_move rfl rfl (WL.val run_move rfl rfl (WL.val (run_nilCheck rfl) rfl rfl (WL.val (run_fieldAddr 0 Tryz.underlying128 rfl Tryz.sizeOf102 rfl rfl) rfl rfl (WL.val (run_indexAddrArr Tryz.underlying102 Tryz.sizeOf23 rfl rfl (by omega) (by omega)) rfl rfl (WL.val (run_load1 Tryz.isAgg23 rfl (h.cellB (cells_at hi))) rfl rfl (WL.val run_move rfl rfl ?_)))))))
   refine WL.val (run_neq rfl rfl) rfl rfl (WL.val (run_pickT rfl) rfl rfl (WL.nil ?_))
   refine W.condIf rfl (fun c7 => ?_) (fun c7 => ?_)
   ·
    refine W.seq (W.region (WL.eff (eff_call Tryz.call121 (rconflict_ok h)) rfl rfl ?_))
    rintro _ w ⟨rfl, h⟩
    refine WL.eff (eff_storeW (vs := [.int .i64 _, .int .i64 _, .int .i64 _, .slice _ _ _, .int .i64 _]) h Tryz.sizeOf36 rfl rfl rfl rfl rfl) rfl rfl ?_
    rintro _ w h
    refine WL.val run_assign rfl rfl (WL.nil (W.ret (bodyQ.rctB (vs := [.int .i64 _, .int .i64 _, .int .i64 _, .slice _ _ _, .int .i64 _]) (v2 := .slice _ _ _) h Tryz.results62 Tryz.isAgg36 Tryz.sizeOf36 rfl rfl rfl rfl ?_)))
    have h : On W0 (Own 2 (.slice none 0 0) 0 (notesV 0 []) :: _) w := h.ownEmpty 2 none
    have e : regF t i key fresh ign = ⟨t, plain 24 0 0, [], 0⟩ := by unfold regF; rw [if_neg (by rintro (hx | hx); rw [hx] at c16; cases c16; exact c7 hx.symm)]
    rw [e]
    dsimp only
    exact ⟨none, 0, rfl, h.to⟩
   refine W.skip (W.seq (W.region (WL.val run_move rfl rfl (WL.val run_move rfl rfl (WL.val run_move rfl rfl (WL.val (run_nilCheck rfl) rfl rfl (WL.val (run_fieldAddr 0 Tryz.underlying128 rfl Tryz.sizeOf102 rfl rfl) rfl rfl ?_)))))))
   refine WL.val (run_indexAddrArr Tryz.underlying102 Tryz.sizeOf23 rfl rfl (by omega) (by omega)) rfl rfl (WL.eff (eff_store (v := .int .u64 _) h Tryz.sizeOf23 rfl rfl rfl (cells_lt hi) (free0 _)) rfl rfl ?_)
   rintro _ w h
   rw [cells_set hi] at h
   refine WL.nil (W.seq (W.region (WL.val run_move rfl rfl (WL.val (run_nilCheck rfl) rfl rfl (WL.val (run_fieldAddr 10 Tryz.underlying128 rfl Tryz.sizeOf126 rfl rfl) rfl rfl (WL.val (run_load1 Tryz.isAgg126 rfl (h.cellB rfl)) rfl rfl (WL.val (run_addW rfl rfl) rfl rfl ?_)))))))
   refine WL.val (run_nilCheck rfl) rfl rfl (WL.val (run_fieldAddr 10 Tryz.underlying128 rfl Tryz.sizeOf126 rfl rfl) rfl rfl (WL.eff (eff_store (v := .int .u32 _) h Tryz.sizeOf126 rfl rfl rfl rfl rfl) rfl rfl ?_))
   rintro _ w h
   try simp only [Nat.zero_add, Nat.add_zero, List.set_cons_zero, List.set_cons_succ] at h
   refine WL.nil (W.seq (W.seq ?_))
   have h := h.fetch (blk b ((t.put i fresh).cells.set (0 + 10) (.int .u32 (IntKind.u32.wrap ((t.put i fresh).gen + 1)))) 128)
   have h : On W0 (blk b (t.put i fresh).inc.cells 128 :: _) w := h
   refine W.region (WL.val run_move rfl rfl ?_)
   refine WL.dec (run_eql rfl rfl) rfl rfl (fun c42 => ?_) (fun c42 => ?_)
   ·
    refine WL.val run_move rfl rfl (WL.val run_move rfl rfl (WL.val (run_nilCheck rfl) rfl rfl (WL.val (run_fieldAddr 8 Tryz.underlying128 rfl Tryz.sizeOf3 rfl rfl) rfl rfl (WL.val (run_load1 Tryz.isAgg3 rfl (h.cellB rfl)) rfl rfl (WL.val run_move rfl rfl (WL.val (run_eql rfl rfl) rfl rfl (WL.val (run_pickT rfl) rfl rfl ?_)))))))
    refine WL.nil ?_
    refine W.condIf rfl (fun c14 => ?_) (fun c14 => ?_)
    ·
     refine W.seq (W.region (WL.eff (eff_call Tryz.call122 (rgood_ok h)) rfl rfl ?_))
     rintro _ w ⟨rfl, h⟩
     refine WL.val run_move rfl rfl (WL.val run_move rfl rfl (WL.eff (eff_call Tryz.call123 (rfree_ok (i := i) (t := (t.put i fresh).inc) (show t.typ ≤ 6 from hty6) (h.fetch (blk b (t.put i fresh).inc.cells 128)))) rfl rfl ?_))
     rintro _ w ⟨ad, cd, hv, h⟩
     rw [told_put] at hv h
     subst hv
     have h : On W0 (Own 2 (.slice ad (t.told i).length cd) (t.told i).length (notesV 10756 (t.told i)) :: blk b (t.inc.freed.put i fresh).cells 128 :: _) w := h
     refine WL.eff (eff_storeW (vs := [.int .i64 _, .int .i64 _, .int .i64 _, .slice _ _ _, .int .i64 _]) h Tryz.sizeOf36 rfl rfl rfl rfl rfl) rfl rfl ?_
     rintro _ w h
     refine WL.val run_assign rfl rfl (WL.nil (W.ret (bodyQ.rctB (vs := [.int .i64 _, .int .i64 _, .int .i64 _, .slice _ _ _, .int .i64 _]) (v2 := .slice _ _ _) h Tryz.results62 Tryz.isAgg36 Tryz.sizeOf36 rfl rfl rfl rfl ?_)))
     have e1 : regO t i fresh = (t.told i, t.inc.freed.put i fresh) := by unfold regO; rw [if_pos ⟨by omega, c14⟩]
     have e : regF t i key fresh ign = ⟨t.inc.freed.put i fresh, plain 0 0 0, t.told i, 10756⟩ := by unfold regF; rw [if_pos (.inr (by omega)), e1]
     rw [e]
     dsimp only
     exact ⟨ad, cd, rfl, h.to⟩
    refine W.skip (W.seq (W.region (WL.eff (eff_call Tryz.call122 (rgood_ok h)) rfl rfl ?_)))
    rintro _ w ⟨rfl, h⟩
    refine WL.eff (eff_storeW (vs := [.int .i64 _, .int .i64 _, .int .i64 _, .slice _ _ _, .int .i64 _]) h Tryz.sizeOf36 rfl rfl rfl rfl rfl) rfl rfl ?_
    rintro _ w h
    refine WL.val run_assign rfl rfl (WL.nil (W.ret (bodyQ.rctB (vs := [.int .i64 _, .int .i64 _, .int .i64 _, .slice _ _ _, .int .i64 _]) (v2 := .slice _ _ _) h Tryz.results62 Tryz.isAgg36 Tryz.sizeOf36 rfl rfl rfl rfl ?_)))
    have e1 : regO t i fresh = ([], t.inc.put i fresh) := by unfold regO; rw [if_neg (fun hh => c14 hh.2)]
    have h := h.fetch (blk b (t.put i fresh).inc.cells 128)
    have h : On W0 (blk b (t.inc.put i fresh).cells 128 :: _) w := h
    have h : On W0 (Own 2 (.slice none 0 0) 0 (notesV 10756 []) :: _) w := h.ownEmpty 2 none
    have e : regF t i key fresh ign = ⟨t.inc.put i fresh, plain 0 0 0, [], 10756⟩ := by unfold regF; rw [if_pos (.inr (by omega)), e1]
    rw [e]
    dsimp only
    exact ⟨none, 0, rfl, h.to⟩
   refine WL.val run_move rfl rfl (WL.skip rfl rfl (WL.skip rfl rfl (WL.skip rfl rfl (WL.skip rfl rfl (WL.skip rfl rfl (WL.skip rfl rfl (WL.val (run_pickF rfl) rfl rfl ?_)))))))
   refine WL.nil (W.condF rfl (W.skip (W.seq (W.region (WL.eff (eff_call Tryz.call122 (rgood_ok h)) rfl rfl ?_)))))
   rintro _ w ⟨rfl, h⟩
   refine WL.eff (eff_storeW (vs := [.int .i64 _, .int .i64 _, .int .i64 _, .slice _ _ _, .int .i64 _]) h Tryz.sizeOf36 rfl rfl rfl rfl rfl) rfl rfl ?_
   rintro _ w h
   refine WL.val run_assign rfl rfl (WL.nil (W.ret (bodyQ.rctB (vs := [.int .i64 _, .int .i64 _, .int .i64 _, .slice _ _ _, .int .i64 _]) (v2 := .slice _ _ _) h Tryz.results62 Tryz.isAgg36 Tryz.sizeOf36 rfl rfl rfl rfl ?_)))
   have e1 : regO t i fresh = ([], t.inc.put i fresh) := by unfold regO; rw [if_neg (fun hh => c42 hh.1)]
   have h := h.fetch (blk b (t.put i fresh).inc.cells 128)
   have h : On W0 (blk b (t.inc.put i fresh).cells 128 :: _) w := h
   have h : On W0 (Own 2 (.slice none 0 0) 0 (notesV 10756 []) :: _) w := h.ownEmpty 2 none
   have e : regF t i key fresh ign = ⟨t.inc.put i fresh, plain 0 0 0, [], 10756⟩ := by unfold regF; rw [if_pos (.inr (by omega)), e1]
   rw [e]
   dsimp only
   exact ⟨none, 0, rfl, h.to⟩
  refine WL.val run_move rfl rfl (WL.skip rfl rfl (WL.skip rfl rfl (WL.skip rfl rfl (WL.skip rfl rfl (WL.skip rfl rfl (WL.skip rfl rfl (WL.skip rfl rfl ?_)))))))
  refine WL.skip rfl rfl (WL.val (run_pickF rfl) rfl rfl (WL.nil (W.condF rfl (W.skip (W.seq (W.region (WL.val run_move rfl rfl ?_)))))))
  refine WL.val run_move rfl rfl (WL.val run_move rfl rfl (WL.val (run_nilCheck rfl) rfl rfl (WL.val (run_fieldAddr 0 Tryz.underlying128 rfl Tryz.sizeOf102 rfl rfl) rfl rfl (WL.val (run_indexAddrArr Tryz.underlying102 Tryz.sizeOf23 rfl rfl (by omega) (by omega)) rfl rfl (WL.eff (eff_store (v := .int .u64 _) h Tryz.sizeOf23 rfl rfl rfl (cells_lt hi) (free0 _)) rfl rfl ?_)))))
  rintro _ w h
  rw [cells_set hi] at h
  refine WL.nil (W.seq (W.region (WL.val run_move rfl rfl (WL.val (run_nilCheck rfl) rfl rfl (WL.val (run_fieldAddr 10 Tryz.underlying128 rfl Tryz.sizeOf126 rfl rfl) rfl rfl (WL.val (run_load1 Tryz.isAgg126 rfl (h.cellB rfl)) rfl rfl (WL.val (run_addW rfl rfl) rfl rfl ?_)))))))
  refine WL.val (run_nilCheck rfl) rfl rfl (WL.val (run_fieldAddr 10 Tryz.underlying128 rfl Tryz.sizeOf126 rfl rfl) rfl rfl (WL.eff (eff_store (v := .int .u32 _) h Tryz.sizeOf126 rfl rfl rfl rfl rfl) rfl rfl ?_))
  rintro _ w h
  try simp only [Nat.zero_add, Nat.add_zero, List.set_cons_zero, List.set_cons_succ] at h
  refine WL.nil (W.seq (W.seq ?_))
  have h := h.fetch (blk b ((t.put i fresh).cells.set (0 + 10) (.int .u32 (IntKind.u32.wrap ((t.put i fresh).gen + 1)))) 128)
  have h : On W0 (blk b (t.put i fresh).inc.cells 128 :: _) w := h
  refine W.region (WL.val run_move rfl rfl ?_)
  refine WL.dec (run_eql rfl rfl) rfl rfl (fun c42 => ?_) (fun c42 => ?_)
  ·
   refine WL.val run_move rfl rfl (WL.val run_move rfl rfl (WL.val (run_nilCheck rfl) rfl rfl (WL.val (run_fieldAddr 8 Tryz.underlying128 rfl Tryz.sizeOf3 rfl rfl) rfl rfl (WL.val (run_load1 Tryz.isAgg3 rfl (h.cellB rfl)) rfl rfl (WL.val run_move rfl rfl (WL.val (run_eql rfl rfl) rfl rfl (WL.val (run_pickT rfl) rfl rfl ?_)))))))
   refine WL.nil ?_
   refine W.condIf rfl (fun c14 => ?_) (fun c14 => ?_)
   ·
    refine W.seq (W.region (WL.eff (eff_call Tryz.call122 (rgood_ok h)) rfl rfl ?_))
    rintro _ w ⟨rfl, h⟩
    refine WL.val run_move rfl rfl (WL.val run_move rfl rfl (WL.eff (eff_call Tryz.call123 (rfree_ok (i := i) (t := (t.put i fresh).inc) (show t.typ ≤ 6 from hty6) (h.fetch (blk b (t.put i fresh).inc.cells 128)))) rfl rfl ?_))
    rintro _ w ⟨ad, cd, hv, h⟩
    rw [told_put] at hv h
    subst hv
    have h : On W0 (Own 2 (.slice ad (t.told i).length cd) (t.told i).length (notesV 10756 (t.told i)) :: blk b (t.inc.freed.put i fresh).cells 128 :: _) w := h
    refine WL.eff (eff_storeW (vs := [.int .i64 _, .int .i64 _, .int .i64 _, .slice _ _ _, .int .i64 _]) h Tryz.sizeOf36 rfl rfl rfl rfl rfl) rfl rfl ?_
    rintro _ w h
    refine WL.val run_assign rfl rfl (WL.nil (W.ret (bodyQ.rctB (vs := [.int .i64 _, .int .i64 _, .int .i64 _, .slice _ _ _, .int .i64 _]) (v2 := .slice _ _ _) h Tryz.results62 Tryz.isAgg36 Tryz.sizeOf36 rfl rfl rfl rfl ?_)))
    have e1 : regO t i fresh = (t.told i, t.inc.freed.put i fresh) := by unfold regO; rw [if_pos ⟨by omega, c14⟩]
    have e : regF t i key fresh ign = ⟨t.inc.freed.put i fresh, plain 0 0 0, t.told i, 10756⟩ := by unfold regF; rw [if_pos (.inl (by simpa using c16)), e1]
    rw [e]
    dsimp only
    exact ⟨ad, cd, rfl, h.to⟩
   refine W.skip (W.seq (W.region (WL.eff (eff_call Tryz.call122 (rgood_ok h)) rfl rfl ?_)))
   rintro _ w ⟨rfl, h⟩
   refine WL.eff (eff_storeW (vs := [.int .i64 _, .int .i64 _, .int .i64 _, .slice _ _ _, .int .i64 _]) h Tryz.sizeOf36 rfl rfl rfl rfl rfl) rfl rfl ?_
   rintro _ w h
   refine WL.val run_assign rfl rfl (WL.nil (W.ret (bodyQ.rctB (vs := [.int .i64 _, .int .i64 _, .int .i64 _, .slice _ _ _, .int .i64 _]) (v2 := .slice _ _ _) h Tryz.results62 Tryz.isAgg36 Tryz.sizeOf36 rfl rfl rfl rfl ?_)))
   have e1 : regO t i fresh = ([], t.inc.put i fresh) := by unfold regO; rw [if_neg (fun hh => c14 hh.2)]
   have h := h.fetch (blk b (t.put i fresh).inc.cells 128)
   have h : On W0 (blk b (t.inc.put i fresh).cells 128 :: _) w := h
   have h : On W0 (Own 2 (.slice none 0 0) 0 (notesV 10756 []) :: _) w := h.ownEmpty 2 none
   have e : regF t i key fresh ign = ⟨t.inc.put i fresh, plain 0 0 0, [], 10756⟩ := by unfold regF; rw [if_pos (.inl (by simpa using c16)), e1]
   rw [e]
   dsimp only
   exact ⟨none, 0, rfl, h.to⟩
  refine WL.val run_move rfl rfl (WL.skip rfl rfl (WL.skip rfl rfl (WL.skip rfl rfl (WL.skip rfl rfl (WL.skip rfl rfl (WL.skip rfl rfl (WL.val (run_pickF rfl) rfl rfl ?_)))))))
  refine WL.nil (W.condF rfl (W.skip (W.seq (W.region (WL.eff (eff_call Tryz.call122 (rgood_ok h)) rfl rfl ?_)))))
  rintro _ w ⟨rfl, h⟩
  refine WL.eff (eff_storeW (vs := [.int .i64 _, .int .i64 _, .int .i64 _, .slice _ _ _, .int .i64 _]) h Tryz.sizeOf36 rfl rfl rfl rfl rfl) rfl rfl ?_
  rintro _ w h
  refine WL.val run_assign rfl rfl (WL.nil (W.ret (bodyQ.rctB (vs := [.int .i64 _, .int .i64 _, .int .i64 _, .slice _ _ _, .int .i64 _]) (v2 := .slice _ _ _) h Tryz.results62 Tryz.isAgg36 Tryz.sizeOf36 rfl rfl rfl rfl ?_)))
  have e1 : regO t i fresh = ([], t.inc.put i fresh) := by unfold regO; rw [if_neg (fun hh => c42 hh.1)]
  have h := h.fetch (blk b (t.put i fresh).inc.cells 128)
  have h : On W0 (blk b (t.inc.put i fresh).cells 128 :: _) w := h
  have h : On W0 (Own 2 (.slice none 0 0) 0 (notesV 10756 []) :: _) w := h.ownEmpty 2 none
  have e : regF t i key fresh ign = ⟨t.inc.put i fresh, plain 0 0 0, [], 10756⟩ := by unfold regF; rw [if_pos (.inl (by simpa using c16)), e1]
  rw [e]
  dsimp only
  exact ⟨none, 0, rfl, h.to⟩

theorem rreserve_ok {b i : Nat} {t : Tb} {key typ : Int} (hi : i < 8) (hI : t.hold = -1 ∨ (0 ≤ t.hold ∧ t.hold < 8)) (h : On W0 (blk b t.cells 128 :: L) w) : Calls Tryz.prog 64 #[.pointer (some ⟨b, 0, none⟩), .int .i64 (i : Int), .int .u64 key, .int .i64 typ] w (Ret fun v w' => v = (rsvF t i key typ).r.val (.slice none 0 0) ∧ On W0 (blk b (rsvF t i key typ).t.cells 128 :: L) w') := by
  refine enter Tryz.func64 rfl Tryz.ntmps64 rfl (W.seq (W.region (WL.eff (eff_alloc h Tryz.zeroValue36 rfl) rfl rfl ?_)))
  rintro _ w ⟨b8, rfl, h⟩
  refine WL.nil (W.seq (W.block (W.seq (W.region (WL.val run_move rfl rfl (WL.eff (eff_call Tryz.call114 (rno_ok h)) rfl rfl ?_))))))
  rintro _ w ⟨hv, h⟩
  rcases hv with ⟨hb_, _⟩ | ⟨_, hv⟩
  · rw [hostB_iff.2 ⟨by omega, by omega⟩] at hb_; cases hb_
  subst hv
  refine WL.val run_assign rfl rfl (WL.nil (W.condF rfl (W.seq (W.region (WL.val run_move rfl rfl (WL.val run_move rfl rfl (WL.val run_move rfl rfl ?_)))))))
  refine WL.eff (eff_call Tryz.call124 (rnot_ok (key := key) hi (h.fetch (blk b t.cells 128)))) rfl rfl ?_
  rintro _ w ⟨hv, h⟩
  rcases hv with ⟨hok, hv⟩ | ⟨hok, hv⟩ <;> subst hv
  ·
   refine WL.val run_assign rfl rfl (WL.nil (W.condT rfl (W.seq (W.region (WL.eff (eff_call Tryz.call121 (rconflict_ok h)) rfl rfl ?_)))))
   rintro _ w ⟨rfl, h⟩
   refine WL.eff (eff_storeW (vs := [.int .i64 _, .int .i64 _, .int .i64 _, .slice _ _ _, .int .i64 _]) h Tryz.sizeOf36 rfl rfl rfl rfl rfl) rfl rfl ?_
   rintro _ w h
   refine WL.nil (W.ret (bodyQ.rcB (vs := [.int .i64 _, .int .i64 _, .int .i64 _, .slice _ _ _, .int .i64 _]) h Tryz.results64 Tryz.isAgg36 Tryz.sizeOf36 rfl rfl rfl ?_))
   have e : rsvF t i key typ = ⟨t, plain 24 0 0, [], 0⟩ := by unfold rsvF; rw [if_pos hok]
   rw [e]
   dsimp only
   exact ⟨rfl, h.to⟩
  refine WL.val run_assign rfl rfl (WL.nil (W.condF rfl (W.seq (W.region (WL.val run_move rfl rfl (WL.eff (eff_call Tryz.call125 (ris_ok h)) rfl rfl ?_))))))
  rintro _ w ⟨hv, h⟩
  have hcs := Bool.eq_false_or_eq_true (typedB typ)
  rcases hcs with hty | hty <;> (rw [hty] at hv; subst hv)
  ·
   refine WL.val (run_not rfl) rfl rfl (WL.val run_assign rfl rfl (WL.nil (W.condF rfl (W.seq (W.region (WL.val run_move rfl rfl (WL.val (run_nilCheck rfl) rfl rfl ?_)))))))
   refine WL.val (run_fieldAddr 8 Tryz.underlying128 rfl Tryz.sizeOf3 rfl rfl) rfl rfl (WL.val (run_load1 Tryz.isAgg3 rfl (h.cellB rfl)) rfl rfl (WL.val (run_lss rfl rfl) rfl rfl (WL.val run_assign rfl rfl (WL.nil ?_))))
   refine W.condIf rfl (fun c15 => ?_) (fun c15 => ?_)
   ·
    refine W.seq (W.region (WL.val run_move rfl rfl (WL.val run_move rfl rfl (WL.val (run_nilCheck rfl) rfl rfl (WL.val (run_fieldAddr 8 Tryz.underlying128 rfl Tryz.sizeOf3 rfl rfl) rfl rfl (WL.eff (eff_store (v := .int .i64 _) h Tryz.sizeOf3 rfl rfl rfl rfl rfl) rfl rfl ?_))))))
    rintro _ w h
    try simp only [Nat.zero_add, Nat.add_zero, List.set_cons_zero, List.set_cons_succ] at h
    refine WL.nil (W.seq (W.region (WL.val run_move rfl rfl (WL.val run_move rfl rfl (WL.val (run_nilCheck rfl) rfl rfl (WL.val (run_fieldAddr 9 Tryz.underlying128 rfl Tryz.sizeOf3 rfl rfl) rfl rfl (WL.eff (eff_store (v := .int .i64 _) h Tryz.sizeOf3 rfl rfl rfl rfl rfl) rfl rfl ?_)))))))
    rintro _ w h
    try simp only [Nat.zero_add, Nat.add_zero, List.set_cons_zero, List.set_cons_succ] at h
    refine WL.nil (W.seq ?_)
    have h := h.fetch (blk b ((t.cells.set (0 + 8) (.int .i64 (i : Int))).set (0 + 9) (.int .i64 typ)) 128)
    have h : On W0 (blk b (t.take i typ).cells 128 :: _) w := h
    refine W.region (WL.eff (eff_call Tryz.call122 (rgood_ok h)) rfl rfl ?_)
    rintro _ w ⟨rfl, h⟩
    refine WL.eff (eff_storeW (vs := [.int .i64 _, .int .i64 _, .int .i64 _, .slice _ _ _, .int .i64 _]) h Tryz.sizeOf36 rfl rfl rfl rfl rfl) rfl rfl ?_
    rintro _ w h
    refine WL.nil (W.ret (bodyQ.rcB (vs := [.int .i64 _, .int .i64 _, .int .i64 _, .slice _ _ _, .int .i64 _]) h Tryz.results64 Tryz.isAgg36 Tryz.sizeOf36 rfl rfl rfl ?_))
    have e : rsvF t i key typ = ⟨t.take i typ, plain 0 0 0, [], 0⟩ := by unfold rsvF; rw [if_neg (by rw [hok]; decide), if_neg (by rw [hty]; decide), if_pos (show t.hold = -1 by omega)]
    rw [e]
    dsimp only
    exact ⟨rfl, h.to⟩
   refine W.seq (W.region (WL.val run_move rfl rfl (WL.val (run_nilCheck rfl) rfl rfl (WL.val (run_fieldAddr 8 Tryz.underlying128 rfl Tryz.sizeOf3 rfl rfl) rfl rfl (WL.val (run_load1 Tryz.isAgg3 rfl (h.cellB rfl)) rfl rfl (WL.val run_move rfl rfl ?_))))))
   refine WL.dec (run_neq rfl rfl) rfl rfl (fun c45 => ?_) (fun c45 => ?_)
   ·
    refine WL.val run_move rfl rfl (WL.skip rfl rfl (WL.skip rfl rfl (WL.skip rfl rfl (WL.skip rfl rfl (WL.skip rfl rfl (WL.skip rfl rfl (WL.val (run_pickT rfl) rfl rfl ?_)))))))
    refine WL.val run_assign rfl rfl (WL.nil (W.condT rfl (W.seq (W.region (WL.eff (eff_call Tryz.call121 (rconflict_ok h)) rfl rfl ?_)))))
    rintro _ w ⟨rfl, h⟩
    refine WL.eff (eff_storeW (vs := [.int .i64 _, .int .i64 _, .int .i64 _, .slice _ _ _, .int .i64 _]) h Tryz.sizeOf36 rfl rfl rfl rfl rfl) rfl rfl ?_
    rintro _ w h
    refine WL.nil (W.ret (bodyQ.rcB (vs := [.int .i64 _, .int .i64 _, .int .i64 _, .slice _ _ _, .int .i64 _]) h Tryz.results64 Tryz.isAgg36 Tryz.sizeOf36 rfl rfl rfl ?_))
    have e : rsvF t i key typ = ⟨t, plain 24 0 0, [], 0⟩ := by unfold rsvF; rw [if_neg (by rw [hok]; decide), if_neg (by rw [hty]; decide), if_neg (show ¬ t.hold = -1 by omega), if_neg (by omega)]
    rw [e]
    dsimp only
    exact ⟨rfl, h.to⟩
   refine WL.val run_move rfl rfl (WL.val run_move rfl rfl (WL.val (run_nilCheck rfl) rfl rfl (WL.val (run_fieldAddr 9 Tryz.underlying128 rfl Tryz.sizeOf3 rfl rfl) rfl rfl (WL.val (run_load1 Tryz.isAgg3 rfl (h.cellB rfl)) rfl rfl (WL.val run_move rfl rfl ?_)))))
   refine WL.dec (run_neq rfl rfl) rfl rfl (fun c52 => ?_) (fun c52 => ?_)
   ·
    refine WL.val (run_pickF rfl) rfl rfl (WL.val run_assign rfl rfl (WL.nil (W.condT rfl (W.seq (W.region (WL.eff (eff_call Tryz.call121 (rconflict_ok h)) rfl rfl ?_))))))
    rintro _ w ⟨rfl, h⟩
    refine WL.eff (eff_storeW (vs := [.int .i64 _, .int .i64 _, .int .i64 _, .slice _ _ _, .int .i64 _]) h Tryz.sizeOf36 rfl rfl rfl rfl rfl) rfl rfl ?_
    rintro _ w h
    refine WL.nil (W.ret (bodyQ.rcB (vs := [.int .i64 _, .int .i64 _, .int .i64 _, .slice _ _ _, .int .i64 _]) h Tryz.results64 Tryz.isAgg36 Tryz.sizeOf36 rfl rfl rfl ?_))
    have e : rsvF t i key typ = ⟨t, plain 24 0 0, [], 0⟩ := by unfold rsvF; rw [if_neg (by rw [hok]; decide), if_neg (by rw [hty]; decide), if_neg (show ¬ t.hold = -1 by omega), if_neg (by omega)]
    rw [e]
    dsimp only
    exact ⟨rfl, h.to⟩
   refine WL.val (run_pickF rfl) rfl rfl (WL.val run_assign rfl rfl (WL.nil (W.condF rfl (W.skip (W.seq (W.region (WL.eff (eff_call Tryz.call122 (rgood_ok h)) rfl rfl ?_)))))))
   rintro _ w ⟨rfl, h⟩
   refine WL.eff (eff_storeW (vs := [.int .i64 _, .int .i64 _, .int .i64 _, .slice _ _ _, .int .i64 _]) h Tryz.sizeOf36 rfl rfl rfl rfl rfl) rfl rfl ?_
   rintro _ w h
   refine WL.nil (W.ret (bodyQ.rcB (vs := [.int .i64 _, .int .i64 _, .int .i64 _, .slice _ _ _, .int .i64 _]) h Tryz.results64 Tryz.isAgg36 Tryz.sizeOf36 rfl rfl rfl ?_))
   have e : rsvF t i key typ = ⟨t, plain 0 0 0, [], 0⟩ := by unfold rsvF; rw [if_neg (by rw [hok]; decide), if_neg (by rw [hty]; decide), if_neg (show ¬ t.hold = -1 by omega), if_pos ⟨by omega, by omega⟩]
   rw [e]
   dsimp only
   exact ⟨rfl, h.to⟩
  refine WL.val (run_not rfl) rfl rfl (WL.val run_assign rfl rfl (WL.nil (W.condT rfl (W.seq (W.region (WL.eff (eff_call Tryz.call120 (rwrong_ok h)) rfl rfl ?_))))))
  rintro _ w ⟨rfl, h⟩
  refine WL.eff (eff_storeW (vs := [.int .i64 _, .int .i64 _, .int .i64 _, .slice _ _ _, .int .i64 _]) h Tryz.sizeOf36 rfl rfl rfl rfl rfl) rfl rfl ?_
  rintro _ w h
  refine WL.nil (W.ret (bodyQ.rcB (vs := [.int .i64 _, .int .i64 _, .int .i64 _, .slice _ _ _, .int .i64 _]) h Tryz.results64 Tryz.isAgg36 Tryz.sizeOf36 rfl rfl rfl ?_))
  have e : rsvF t i key typ = ⟨t, plain 2 5 9216, [], 0⟩ := by unfold rsvF; rw [if_neg (by rw [hok]; decide), if_pos hty]
  rw [e]
  dsimp only
  exact ⟨rfl, h.to⟩

theorem rrelease_ok {b i : Nat} {t : Tb} {key typ : Int} (hi : i < 8) (hty6 : t.typ ≤ 6) (h : On W0 (blk b t.cells 128 :: L) w) : Calls Tryz.prog 65 #[.pointer (some ⟨b, 0, none⟩), .int .i64 (i : Int), .int .u64 key, .int .i64 typ] w (Ret fun v w' => ∃ a c, v = .tuple #[(relF t i key typ).r.val (.slice none 0 0), .slice a (relF t i key typ).l.length c] ∧ On W0 (Own 2 (.slice a (relF t i key typ).l.length c) (relF t i key typ).l.length (notesV (relF t i key typ).code ((relF t i key typ).l)) :: blk b (relF t i key typ).t.cells 128 :: L) w') := by
  refine enter Tryz.func65 rfl Tryz.ntmps65 rfl (W.seq (W.region (WL.eff (eff_alloc h Tryz.zeroValue36 rfl) rfl rfl ?_)))
  rintro _ w ⟨b8, rfl, h⟩
  refine WL.val run_assign rfl rfl (WL.nil (W.seq (W.block (W.seq (W.region (WL.val run_move rfl rfl (WL.eff (eff_call Tryz.call114 (rno_ok h)) rfl rfl ?_)))))))
  rintro _ w ⟨hv, h⟩
  rcases hv with ⟨hb_, _⟩ | ⟨_, hv⟩
  · rw [hostB_iff.2 ⟨by omega, by omega⟩] at hb_; cases hb_
  subst hv
  refine WL.val run_assign rfl rfl (WL.nil (W.condF rfl (W.seq (W.region (WL.val run_move rfl rfl (WL.val run_move rfl rfl (WL.val run_move rfl rfl ?_)))))))
  refine WL.eff (eff_call Tryz.call124 (rnot_ok (key := key) hi (h.fetch (blk b t.cells 128)))) rfl rfl ?_
  rintro _ w ⟨hv, h⟩
  rcases hv with ⟨hok, hv⟩ | ⟨hok, hv⟩ <;> subst hv
  ·
   refine WL.val run_assign rfl rfl (WL.nil (W.condT rfl (W.seq (W.region (WL.eff (eff_call Tryz.call121 (rconflict_ok h)) rfl rfl ?_)))))
   rintro _ w ⟨rfl, h⟩
   refine WL.eff (eff_storeW (vs := [.int .i64 _, .int .i64 _, .int .i64 _, .slice _ _ _, .int .i64 _]) h Tryz.sizeOf36 rfl rfl rfl rfl rfl) rfl rfl ?_
   rintro _ w h
   refine WL.val run_assign rfl rfl (WL.nil (W.ret (bodyQ.rctB (vs := [.int .i64 _, .int .i64 _, .int .i64 _, .slice _ _ _, .int .i64 _]) (v2 := .slice _ _ _) h Tryz.results65 Tryz.isAgg36 Tryz.sizeOf36 rfl rfl rfl rfl ?_)))
   have h : On W0 (Own 2 (.slice none 0 0) 0 (notesV 0 []) :: _) w := h.ownEmpty 2 none
   have e : relF t i key typ = ⟨t, plain 24 0 0, [], 0⟩ := by unfold relF; rw [if_pos hok]
   rw [e]
   dsimp only
   exact ⟨none, 0, rfl, h.to⟩
  refine WL.val run_assign rfl rfl (WL.nil (W.condF rfl (W.seq (W.region (WL.val run_move rfl rfl (WL.eff (eff_call Tryz.call125 (ris_ok h)) rfl rfl ?_))))))
  rintro _ w ⟨hv, h⟩
  have hcs := Bool.eq_false_or_eq_true (typedB typ)
  rcases hcs with hty | hty <;> (rw [hty] at hv; subst hv)
  ·
   refine WL.val (run_not rfl) rfl rfl (WL.val run_assign rfl rfl (WL.nil (W.condF rfl (W.seq (W.region (WL.val run_move rfl rfl (WL.val (run_nilCheck rfl) rfl rfl ?_)))))))
   refine WL.val (run_fieldAddr 8 Tryz.underlying128 rfl Tryz.sizeOf3 rfl rfl) rfl rfl (WL.val (run_load1 Tryz.isAgg3 rfl (h.cellB rfl)) rfl rfl (WL.val run_move rfl rfl (WL.val (run_neq rfl rfl) rfl rfl (WL.val run_assign rfl rfl (WL.nil ?_)))))
   refine W.condIf rfl (fun c15 => ?_) (fun c15 => ?_)
   ·
    refine W.seq (W.region (WL.eff (eff_call Tryz.call122 (rgood_ok h)) rfl rfl ?_))
    rintro _ w ⟨rfl, h⟩
    refine WL.eff (eff_storeW (vs := [.int .i64 _, .int .i64 _, .int .i64 _, .slice _ _ _, .int .i64 _]) h Tryz.sizeOf36 rfl rfl rfl rfl rfl) rfl rfl ?_
    rintro _ w h
    refine WL.val run_assign rfl rfl (WL.nil (W.ret (bodyQ.rctB (vs := [.int .i64 _, .int .i64 _, .int .i64 _, .slice _ _ _, .int .i64 _]) (v2 := .slice _ _ _) h Tryz.results65 Tryz.isAgg36 Tryz.sizeOf36 rfl rfl rfl rfl ?_)))
    have h : On W0 (Own 2 (.slice none 0 0) 0 (notesV 0 []) :: _) w := h.ownEmpty 2 none
    have e : relF t i key typ = ⟨t, plain 0 0 0, [], 0⟩ := by unfold relF; rw [if_neg (by rw [hok]; decide), if_neg (by rw [hty]; decide), if_pos (show t.hold ≠ i from c15)]
    rw [e]
    dsimp only
    exact ⟨none, 0, rfl, h.to⟩
   refine W.seq (W.region (WL.val run_move rfl rfl (WL.val (run_nilCheck rfl) rfl rfl (WL.val (run_fieldAddr 9 Tryz.underlying128 rfl Tryz.sizeOf3 rfl rfl) rfl rfl (WL.val (run_load1 Tryz.isAgg3 rfl (h.cellB rfl)) rfl rfl (WL.val run_move rfl rfl (WL.val (run_neq rfl rfl) rfl rfl ?_)))))))
   refine WL.val run_assign rfl rfl (WL.nil ?_)
   refine W.condIf rfl (fun c19 => ?_) (fun c19 => ?_)
   ·
    refine W.seq (W.region (WL.eff (eff_call Tryz.call120 (rwrong_ok h)) rfl rfl ?_))
    rintro _ w ⟨rfl, h⟩
    refine WL.eff (eff_storeW (vs := [.int .i64 _, .int .i64 _, .int .i64 _, .slice _ _ _, .int .i64 _]) h Tryz.sizeOf36 rfl rfl rfl rfl rfl) rfl rfl ?_
    rintro _ w h
    refine WL.val run_assign rfl rfl (WL.nil (W.ret (bodyQ.rctB (vs := [.int .i64 _, .int .i64 _, .int .i64 _, .slice _ _ _, .int .i64 _]) (v2 := .slice _ _ _) h Tryz.results65 Tryz.isAgg36 Tryz.sizeOf36 rfl rfl rfl rfl ?_)))
    have h : On W0 (Own 2 (.slice none 0 0) 0 (notesV 0 []) :: _) w := h.ownEmpty 2 none
    have e : relF t i key typ = ⟨t, plain 2 5 9732, [], 0⟩ := by unfold relF; rw [if_neg (by rw [hok]; decide), if_neg (by rw [hty]; decide), if_neg (by omega), if_pos (show t.typ ≠ typ from c19)]
    rw [e]
    dsimp only
    exact ⟨none, 0, rfl, h.to⟩
   refine W.skip (W.seq (W.region (WL.eff (eff_call Tryz.call122 (rgood_ok h)) rfl rfl ?_)))
   rintro _ w ⟨rfl, h⟩
   refine WL.val run_move rfl rfl (WL.val run_move rfl rfl (WL.eff (eff_call Tryz.call123 (rfree_ok (i := i) hty6 (h.fetch (blk b t.cells 128)))) rfl rfl ?_))
   rintro _ w ⟨ad, cd, rfl, h⟩
   refine WL.eff (eff_storeW (vs := [.int .i64 _, .int .i64 _, .int .i64 _, .slice _ _ _, .int .i64 _]) h Tryz.sizeOf36 rfl rfl rfl rfl rfl) rfl rfl ?_
   rintro _ w h
   refine WL.val run_assign rfl rfl (WL.nil (W.ret (bodyQ.rctB (vs := [.int .i64 _, .int .i64 _, .int .i64 _, .slice _ _ _, .int .i64 _]) (v2 := .slice _ _ _) h Tryz.results65 Tryz.isAgg36 Tryz.sizeOf36 rfl rfl rfl rfl ?_)))
   have e : relF t i key typ = ⟨t.freed, plain 0 0 0, t.told i, 10756⟩ := by unfold relF; rw [if_neg (by rw [hok]; decide), if_neg (by rw [hty]; decide), if_neg (by omega), if_neg (by omega)]
   rw [e]
   dsimp only
   exact ⟨ad, cd, rfl, h.to⟩
  refine WL.val (run_not rfl) rfl rfl (WL.val run_assign rfl rfl (WL.nil (W.condT rfl (W.seq (W.region (WL.eff (eff_call Tryz.call120 (rwrong_ok h)) rfl rfl ?_))))))
  rintro _ w ⟨rfl, h⟩
  refine WL.eff (eff_storeW (vs := [.int .i64 _, .int .i64 _, .int .i64 _, .slice _ _ _, .int .i64 _]) h Tryz.sizeOf36 rfl rfl rfl rfl rfl) rfl rfl ?_
  rintro _ w h
  refine WL.val run_assign rfl rfl (WL.nil (W.ret (bodyQ.rctB (vs := [.int .i64 _, .int .i64 _, .int .i64 _, .slice _ _ _, .int .i64 _]) (v2 := .slice _ _ _) h Tryz.results65 Tryz.isAgg36 Tryz.sizeOf36 rfl rfl rfl rfl ?_)))
  have h : On W0 (Own 2 (.slice none 0 0) 0 (notesV 0 []) :: _) w := h.ownEmpty 2 none
  have e : relF t i key typ = ⟨t, plain 2 5 9216, [], 0⟩ := by unfold relF; rw [if_neg (by rw [hok]; decide), if_pos hty]
  rw [e]
  dsimp only
  exact ⟨none, 0, rfl, h.to⟩

theorem rclear_ok {b i : Nat} {t : Tb} {key : Int} (hi : i < 8) (h : On W0 (blk b t.cells 128 :: L) w) : Calls Tryz.prog 66 #[.pointer (some ⟨b, 0, none⟩), .int .i64 (i : Int), .int .u64 key] w (Ret fun v w' => ∃ a c, v = .tuple #[(clrF t i key).r.val (.slice none 0 0), .slice a (clrF t i key).l.length c] ∧ On W0 (Own 2 (.slice a (clrF t i key).l.length c) (clrF t i key).l.length (notesV (clrF t i key).code ((clrF t i key).l)) :: blk b (clrF t i key).t.cells 128 :: L) w') := by
  refine enter Tryz.func66 rfl Tryz.ntmps66 rfl (W.seq (W.region (WL.eff (eff_alloc h Tryz.zeroValue36 rfl) rfl rfl ?_)))
  rintro _ w ⟨b6, rfl, h⟩
  refine WL.val run_assign rfl rfl (WL.nil (W.seq (W.block (W.seq (W.region (WL.val run_move rfl rfl (WL.eff (eff_call Tryz.call114 (rno_ok h)) rfl rfl ?_)))))))
  rintro _ w ⟨hv, h⟩
  rcases hv with ⟨hb_, _⟩ | ⟨_, hv⟩
  · rw [hostB_iff.2 ⟨by omega, by omega⟩] at hb_; cases hb_
  subst hv
  refine WL.val run_assign rfl rfl (WL.nil (W.condF rfl (W.seq (W.region (WL.val run_move rfl rfl (WL.val run_move rfl rfl (WL.val run_move rfl rfl ?_)))))))
  refine WL.eff (eff_call Tryz.call124 (rnot_ok (key := key) hi (h.fetch (blk b t.cells 128)))) rfl rfl ?_
  rintro _ w ⟨hv, h⟩
  rcases hv with ⟨hok, hv⟩ | ⟨hok, hv⟩ <;> subst hv
  ·
   refine WL.val run_assign rfl rfl (WL.nil (W.condT rfl (W.seq (W.region (WL.eff (eff_call Tryz.call121 (rconflict_ok h)) rfl rfl ?_)))))
   rintro _ w ⟨rfl, h⟩
   refine WL.eff (eff_storeW (vs := [.int .i64 _, .int .i64 _, .int .i64 _, .slice _ _ _, .int .i64 _]) h Tryz.sizeOf36 rfl rfl rfl rfl rfl) rfl rfl ?_
   rintro _ w h
   refine WL.val run_assign rfl rfl (WL.nil (W.ret (bodyQ.rctB (vs := [.int .i64 _, .int .i64 _, .int .i64 _, .slice _ _ _, .int .i64 _]) (v2 := .slice _ _ _) h Tryz.results66 Tryz.isAgg36 Tryz.sizeOf36 rfl rfl rfl rfl ?_)))
   have h : On W0 (Own 2 (.slice none 0 0) 0 (notesV 0 []) :: _) w := h.ownEmpty 2 none
   have e : clrF t i key = ⟨t, plain 24 0 0, [], 0⟩ := by unfold clrF; rw [if_pos hok]
   rw [e]
   dsimp only
   exact ⟨none, 0, rfl, h.to⟩
  refine WL.val run_assign rfl rfl (WL.nil (W.condF rfl (W.skip (W.seq (W.region (WL.val run_move rfl rfl (WL.val run_move rfl rfl ?_)))))))
  refine WL.eff (eff_call Tryz.call126 (rothers_ok (i := i) (code := 10755) (h.fetch (blk b t.cells 128)))) rfl rfl ?_
  rintro _ w ⟨ad, cd, rfl, h⟩
  refine WL.val run_assign rfl rfl (WL.nil (W.seq (W.region (WL.val run_move rfl rfl (WL.val (run_buildA (out := [.int .u64 _, .int .u64 _, .int .u64 _, .int .u64 _, .int .u64 _, .int .u64 _, .int .u64 _, .int .u64 _]) Tryz.underlying102 Tryz.sizeOf23 Tryz.zeroValue102 rfl rfl (by simp) (trivial) rfl) rfl rfl (WL.val (run_nilCheck rfl) rfl rfl (WL.val (run_fieldAddr 0 Tryz.underlying128 rfl Tryz.sizeOf102 rfl rfl) rfl rfl ?_)))))))
  refine WL.eff (eff_storeN (vs := keysV fun _ => 0) (h.fetch (blk b t.cells 128)) Tryz.sizeOf102 rfl rfl rfl rfl rfl (fun k _ _ => free0 k)) rfl rfl ?_
  rintro _ w h
  refine WL.nil (W.seq (W.region (WL.val run_move rfl rfl (WL.val (run_nilCheck rfl) rfl rfl (WL.val (run_fieldAddr 8 Tryz.underlying128 rfl Tryz.sizeOf3 rfl rfl) rfl rfl (WL.eff (eff_store (v := .int .i64 _) h Tryz.sizeOf3 rfl rfl rfl rfl rfl) rfl rfl ?_))))))
  rintro _ w h
  try simp only [Nat.zero_add, Nat.add_zero, List.set_cons_zero, List.set_cons_succ] at h
  refine WL.nil (W.seq (W.region (WL.val run_move rfl rfl (WL.val (run_nilCheck rfl) rfl rfl (WL.val (run_fieldAddr 9 Tryz.underlying128 rfl Tryz.sizeOf3 rfl rfl) rfl rfl (WL.eff (eff_store (v := .int .i64 _) h Tryz.sizeOf3 rfl rfl rfl rfl rfl) rfl rfl ?_))))))
  rintro _ w h
  try simp only [Nat.zero_add, Nat.add_zero, List.set_cons_zero, List.set_cons_succ] at h
  refine WL.nil (W.seq (W.region (WL.val run_move rfl rfl (WL.val (run_nilCheck rfl) rfl rfl (WL.val (run_fieldAddr 10 Tryz.underlying128 rfl Tryz.sizeOf126 rfl rfl) rfl rfl (WL.val (run_load1 Tryz.isAgg126 rfl (h.cellB rfl)) rfl rfl (WL.val (run_addW rfl rfl) rfl rfl ?_)))))))
  refine WL.val (run_nilCheck rfl) rfl rfl (WL.val (run_fieldAddr 10 Tryz.underlying128 rfl Tryz.sizeOf126 rfl rfl) rfl rfl (WL.eff (eff_store (v := .int .u32 _) h Tryz.sizeOf126 rfl rfl rfl rfl rfl) rfl rfl ?_))
  rintro _ w h
  try simp only [Nat.zero_add, Nat.add_zero, List.set_cons_zero, List.set_cons_succ] at h
  refine WL.nil (W.seq ?_)
  have h := h.fetch (blk b ((((splice t.cells (0 + 0) (keysV fun _ => 0)).set (0 + 8) (.int .i64 (-1))).set (0 + 9) (.int .i64 0)).set (0 + 10) (.int .u32 (IntKind.u32.wrap (t.gen + 1)))) 128)
  have h : On W0 (blk b t.cleared.cells 128 :: _) w := h
  refine W.region (WL.eff (eff_call Tryz.call122 (rgood_ok h)) rfl rfl ?_)
  rintro _ w ⟨rfl, h⟩
  refine WL.val run_move rfl rfl (WL.eff (eff_storeW (vs := [.int .i64 _, .int .i64 _, .int .i64 _, .slice _ _ _, .int .i64 _]) h Tryz.sizeOf36 rfl rfl rfl rfl rfl) rfl rfl ?_)
  rintro _ w h
  refine WL.val run_assign rfl rfl (WL.nil (W.ret (bodyQ.rctB (vs := [.int .i64 _, .int .i64 _, .int .i64 _, .slice _ _ _, .int .i64 _]) (v2 := .slice _ _ _) h Tryz.results66 Tryz.isAgg36 Tryz.sizeOf36 rfl rfl rfl rfl ?_)))
  have e : clrF t i key = ⟨t.cleared, plain 0 0 0, (hostsN t.K i (fun _ => true) 8), 10755⟩ := by unfold clrF; rw [if_neg (by rw [hok]; decide)]
  rw [e]
  dsimp only
  exact ⟨ad, cd, rfl, h.to⟩

theorem rpreempt_ok {b i : Nat} {t : Tb} {key other typ : Int} (hi : i < 8) (hI : t.hold = -1 ∨ (0 ≤ t.hold ∧ t.hold < 8)) (h : On W0 (blk b t.cells 128 :: L) w) : Calls Tryz.prog 67 #[.pointer (some ⟨b, 0, none⟩), .int .i64 (i : Int), .int .u64 key, .int .u64 other, .int .i64 typ] w (Ret fun v w' => ∃ a c, v = .tuple #[(preF t i key other typ).r.val (.slice none 0 0), .slice a (preF t i key other typ).l.length c] ∧ On W0 (Own 2 (.slice a (preF t i key other typ).l.length c) (preF t i key other typ).l.length (notesV (preF t i key other typ).code ((preF t i key other typ).l)) :: blk b (preF t i key other typ).t.cells 128 :: L) w') := by
  refine enter Tryz.func67 rfl Tryz.ntmps67 rfl ?_
  have hmx := maxLen_eq
  refine W.seq (W.region (WL.eff (eff_alloc h Tryz.zeroValue36 rfl) rfl rfl ?_))
  rintro _ w ⟨b10, rfl, h⟩
  refine WL.val run_assign rfl rfl (WL.nil (W.seq (W.block (W.seq (W.region (WL.val run_move rfl rfl (WL.eff (eff_call Tryz.call114 (rno_ok h)) rfl rfl ?_)))))))
  rintro _ w ⟨hv, h⟩
  rcases hv with ⟨hb_, _⟩ | ⟨_, hv⟩
  · rw [hostB_iff.2 ⟨by omega, by omega⟩] at hb_; cases hb_
  subst hv
  refine WL.val run_assign rfl rfl (WL.nil (W.condF rfl (W.seq (W.region (WL.val run_move rfl rfl (WL.val run_move rfl rfl (WL.val run_move rfl rfl ?_)))))))
  refine WL.eff (eff_call Tryz.call124 (rnot_ok (key := key) hi (h.fetch (blk b t.cells 128)))) rfl rfl ?_
  rintro _ w ⟨hv, h⟩
  rcases hv with ⟨hok, hv⟩ | ⟨hok, hv⟩ <;> subst hv
  ·
   refine WL.val run_assign rfl rfl (WL.nil (W.condT rfl (W.seq (W.region (WL.eff (eff_call Tryz.call121 (rconflict_ok h)) rfl rfl ?_)))))
   rintro _ w ⟨rfl, h⟩
   refine WL.eff (eff_storeW (vs := [.int .i64 _, .int .i64 _, .int .i64 _, .slice _ _ _, .int .i64 _]) h Tryz.sizeOf36 rfl rfl rfl rfl rfl) rfl rfl ?_
   rintro _ w h
   refine WL.val run_assign rfl rfl (WL.nil (W.ret (bodyQ.rctB (vs := [.int .i64 _, .int .i64 _, .int .i64 _, .slice _ _ _, .int .i64 _]) (v2 := .slice _ _ _) h Tryz.results67 Tryz.isAgg36 Tryz.sizeOf36 rfl rfl rfl rfl ?_)))
   have h : On W0 (Own 2 (.slice none 0 0) 0 (notesV 0 []) :: _) w := h.ownEmpty 2 none
   have e : preF t i key other typ = ⟨t, plain 24 0 0, [], 0⟩ := by unfold preF; rw [if_pos hok]
   rw [e]
   dsimp only
   exact ⟨none, 0, rfl, h.to⟩
  refine WL.val run_assign rfl rfl (WL.nil (W.condF rfl (W.seq (W.region (WL.val run_move rfl rfl (WL.val (run_eql rfl rfl) rfl rfl (WL.val run_assign rfl rfl ?_)))))))
  refine WL.nil ?_
  refine W.condIf rfl (fun c11 => ?_) (fun c11 => ?_)
  ·
   refine W.seq (W.region (WL.eff (eff_call Tryz.call120 (rwrong_ok h)) rfl rfl ?_))
   rintro _ w ⟨rfl, h⟩
   refine WL.eff (eff_storeW (vs := [.int .i64 _, .int .i64 _, .int .i64 _, .slice _ _ _, .int .i64 _]) h Tryz.sizeOf36 rfl rfl rfl rfl rfl) rfl rfl ?_
   rintro _ w h
   refine WL.val run_assign rfl rfl (WL.nil (W.ret (bodyQ.rctB (vs := [.int .i64 _, .int .i64 _, .int .i64 _, .slice _ _ _, .int .i64 _]) (v2 := .slice _ _ _) h Tryz.results67 Tryz.isAgg36 Tryz.sizeOf36 rfl rfl rfl rfl ?_)))
   have h : On W0 (Own 2 (.slice none 0 0) 0 (notesV 0 []) :: _) w := h.ownEmpty 2 none
   have e : preF t i key other typ = ⟨t, plain 2 5 9728, [], 0⟩ := by unfold preF; rw [if_neg (by rw [hok]; decide), if_pos c11]
   rw [e]
   dsimp only
   exact ⟨none, 0, rfl, h.to⟩
  refine W.skip (W.seq (W.region (WL.val run_assign rfl rfl (WL.nil (W.seq (W.seq (W.region ?_)))))))
  refine WL.val run_assign rfl rfl (WL.nil (W.block ?_))
  refine W.loop (fun (k : Nat) env w => ∃ (j : Env) (a : Option Addr) (c : Nat), env = mkE j [(0, .pointer (some ⟨b, 0, none⟩)), (1, .int .i64 (i : Int)), (3, .int .u64 other), (4, .int .i64 typ), (10, .pointer (some ⟨b10, 0, none⟩)), (12, .slice a (hostsN t.K i (fun x => decide (x = other)) k).length c), (13, .int .i64 (k : Int))] ∧ k ≤ 8 ∧ On W0 (Own 2 (.slice a (hostsN t.K i (fun x => decide (x = other)) k).length c) (hostsN t.K i (fun x => decide (x = other)) k).length (notesV 10757 ((hostsN t.K i (fun x => decide (x = other)) k))) :: blk b t.cells 128 :: blk b10 [.int .i64 0, .int .i64 0, .int .i64 0, .slice none 0 0, .int .i64 0] 36 :: L) w) (fun k => 8 - k) (0) ?_ ?_
  · have h : On W0 (Own 2 (.slice none (hostsN t.K i (fun x => decide (x = other)) 0).length 0) (hostsN t.K i (fun x => decide (x = other)) 0).length (notesV 10757 (hostsN t.K i (fun x => decide (x = other)) 0)) :: _) w := h.ownEmpty 2 none
    exact ⟨_, none, 0, mkE_of ⟨rfl, rfl, rfl, rfl, rfl, rfl, rfl, trivial⟩, Nat.zero_le _, h.to⟩
  rintro k env w ⟨j, a, c, rfl, hk, h⟩
  have hlen := hostsN_len t.K i (fun x => decide (x = other)) k
  refine W.seq (W.seq (W.region (WL.val run_move rfl rfl (WL.val (run_lss rfl rfl) rfl rfl (WL.nil ?_)))))
  refine W.condIf rfl (fun c20 => ?_) (fun c20 => ?_)
  ·
   refine W.skip (W.seq (W.block (W.seq (W.region (WL.val run_move rfl rfl (WL.val run_move rfl rfl ?_))))))
   refine WL.dec (run_neq rfl rfl) rfl rfl (fun c35 => ?_) (fun c35 => ?_)
   ·
    refine WL.val run_move rfl rfl (WL.val run_move rfl rfl (WL.val run_move rfl rfl (WL.val (run_nilCheck rfl) rfl rfl (WL.val (run_fieldAddr 0 Tryz.underlying128 rfl Tryz.sizeOf102 rfl rfl) rfl rfl (WL.val (run_indexAddrArr Tryz.underlying102 Tryz.sizeOf23 rfl rfl (by omega) (by omega)) rfl rfl (WL.val (run_load1 Tryz.isAgg23 rfl (h.cellB (cells_at (i := k) (by omega)))) rfl rfl (WL.val run_move rfl rfl ?_)))))))
    refine WL.val (run_eql rfl rfl) rfl rfl (WL.val (run_pickT rfl) rfl rfl (WL.nil ?_))
    refine W.condIf rfl (fun c25 => ?_) (fun c25 => ?_)
    ·
     refine W.region (WL.val run_move rfl rfl (WL.val run_move rfl rfl (WL.val (run_buildS (pl := [(0, 1), (1, 1)]) (out := [.int .i64 _, .int .i64 _]) Tryz.underlying187 Tryz.zeroValue187 (fun w => by kernel_rfl) rfl (⟨⟨_, _, rfl, rfl, by decide⟩, ⟨⟨_, _, rfl, rfl, by decide⟩, trivial⟩⟩) rfl) rfl rfl (WL.eff (eff_mkSlice (zl := [.int .i64 0, .int .i64 0]) (out := [.int .i64 _, .int .i64 _]) h Tryz.underlying117 Tryz.sizeOf187 Tryz.zeroValue187 (by decide) (by kernel_rfl) rfl rfl (by simp) (⟨⟨_, _, rfl, rfl, by decide⟩, trivial⟩) rfl rfl (by simp [maxLen])) rfl rfl ?_))))
     rintro _ w ⟨b49, rfl, h⟩
     refine WL.eff (eff_app (c2 := 1) (bytes := 16) (h.fetch (Own 2 (.slice a (hostsN t.K i (fun x => decide (x = other)) k).length c) (hostsN t.K i (fun x => decide (x = other)) k).length (notesV 10757 ((hostsN t.K i (fun x => decide (x = other)) k))))) rfl rfl (h.cellsO (v := .slice (some ⟨b49, 0, none⟩) 1 1)) Tryz.underlying117 rfl rfl rfl rfl rfl (by omega) (by omega) (by simp [Value.oneCell'])) rfl rfl ?_
     rintro _ w ⟨a50, c50, rfl, h⟩
     have h : On W0 (Own 2 (.slice a50 ((hostsN t.K i (fun x => decide (x = other)) k).length + 1) c50) ((hostsN t.K i (fun x => decide (x = other)) k).length + 1) (notesV 10757 (hostsN t.K i (fun x => decide (x = other)) k) ++ noteV 10757 k) :: _) w := h
     refine WL.val run_assign rfl rfl (WL.nil (W.region (WL.val run_move rfl rfl (WL.val (run_incN rfl rfl (by omega)) rfl rfl (WL.val run_assign rfl rfl (WL.nil ?_))))))
     have e : (hostsN t.K i (fun x => decide (x = other)) (k + 1)) = (hostsN t.K i (fun x => decide (x = other)) k) ++ [k] := by rw [hostsN_succ, if_neg (by rintro (h1 | h1 | h1); exact c35 h1; exact c11 (by omega); rw [decide_eq_false_iff_not] at h1; exact h1 c25)]
     have el : ((hostsN t.K i (fun x => decide (x = other)) (k + 1))).length = ((hostsN t.K i (fun x => decide (x = other)) k)).length + 1 := by rw [e, List.length_append]; rfl
     exact ⟨k + 1, ⟨_, a50, c50, mkE_of ⟨rfl, rfl, rfl, rfl, rfl, (by rw [el]; rfl), rfl, trivial⟩, by omega, (by rw [el, e, ← notesV_snoc]; exact h.to)⟩, by show 8 - (k + 1) < 8 - k; omega⟩
    refine W.skip (W.region (WL.val run_move rfl rfl (WL.val (run_incN rfl rfl (by omega)) rfl rfl (WL.val run_assign rfl rfl (WL.nil ?_)))))
    have e : (hostsN t.K i (fun x => decide (x = other)) (k + 1)) = (hostsN t.K i (fun x => decide (x = other)) k) := by rw [hostsN_succ, if_pos (.inr (.inr (decide_eq_false c25))), List.append_nil]
    exact ⟨k + 1, ⟨_, a, c, mkE_of ⟨rfl, rfl, rfl, rfl, rfl, (by rw [e]; rfl), rfl, trivial⟩, by omega, (by rw [e]; exact h.to)⟩, by show 8 - (k + 1) < 8 - k; omega⟩
   refine WL.val run_move rfl rfl (WL.skip rfl rfl (WL.skip rfl rfl (WL.skip rfl rfl (WL.skip rfl rfl (WL.skip rfl rfl (WL.skip rfl rfl (WL.skip rfl rfl ?_)))))))
   refine WL.skip rfl rfl (WL.val (run_pickF rfl) rfl rfl (WL.nil (W.condF rfl (W.skip (W.region (WL.val run_move rfl rfl (WL.val (run_incN rfl rfl (by omega)) rfl rfl ?_)))))))
   refine WL.val run_assign rfl rfl (WL.nil ?_)
   have e : (hostsN t.K i (fun x => decide (x = other)) (k + 1)) = (hostsN t.K i (fun x => decide (x = other)) k) := by rw [hostsN_succ, if_pos (.inl (by omega)), List.append_nil]
   exact ⟨k + 1, ⟨_, a, c, mkE_of ⟨rfl, rfl, rfl, rfl, rfl, (by rw [e]; rfl), rfl, trivial⟩, by omega, (by rw [e]; exact h.to)⟩, by show 8 - (k + 1) < 8 - k; omega⟩
  refine W.exit (W.seq (W.seq ?_))
  have ob_ : k = 8 := by omega
  obtain rfl := ob_
  have h : On W0 (Own 2 (.slice a (preL t i other).length c) (preL t i other).length (notesV 10757 ((preL t i other))) :: blk b t.cells 128 :: blk b10 [.int .i64 0, .int .i64 0, .int .i64 0, .slice none 0 0, .int .i64 0] 36 :: L) w := h
  have hlen : (preL t i other).length ≤ 8 := hostsN_len ..
  refine W.region (WL.val run_move rfl rfl (WL.val (run_lenSlice Tryz.underlying117 rfl) rfl rfl (WL.val (run_eql rfl rfl) rfl rfl (WL.nil ?_))))
  refine W.condIf rfl (fun c30 => ?_) (fun c30 => ?_)
  ·
   refine W.seq (W.region (WL.eff (eff_call Tryz.call121 (rconflict_ok h)) rfl rfl ?_))
   rintro _ w ⟨rfl, h⟩
   refine WL.eff (eff_storeW (vs := [.int .i64 _, .int .i64 _, .int .i64 _, .slice _ _ _, .int .i64 _]) h Tryz.sizeOf36 rfl rfl rfl rfl rfl) rfl rfl ?_
   rintro _ w h
   refine WL.val run_assign rfl rfl (WL.nil (W.ret (bodyQ.rctB (vs := [.int .i64 _, .int .i64 _, .int .i64 _, .slice _ _ _, .int .i64 _]) (v2 := .slice _ _ _) h Tryz.results67 Tryz.isAgg36 Tryz.sizeOf36 rfl rfl rfl rfl ?_)))
   have h : On W0 (Own 2 (.slice none 0 0) 0 (notesV 0 []) :: _) w := h.ownEmpty 2 none
   have e : preF t i key other typ = ⟨t, plain 24 0 0, [], 0⟩ := by unfold preF; rw [if_neg (by rw [hok]; decide), if_neg c11, if_pos (show (preL t i other) = [] from List.eq_nil_of_length_eq_zero (show (hostsN t.K i (fun x => decide (x = other)) 8).length = 0 by omega))]
   rw [e]
   dsimp only
   exact ⟨none, 0, rfl, h.to⟩
  refine W.skip (W.seq (W.seq ?_))
  refine W.draw Tryz.follows h (fun w h => ?_)
  refine WT.pure 0 rfl (by kernel_rfl) (fun w' => run_move) rfl rfl (WT.pure 1 rfl (by kernel_rfl) (fun w' => (run_nilCheck rfl)) rfl rfl (WT.pure 2 rfl (by kernel_rfl) (fun w' => (run_fieldAddr 8 Tryz.underlying128 rfl Tryz.sizeOf3 rfl rfl)) rfl rfl (WT.load1 3 rfl (by kernel_rfl) Tryz.isAgg3 rfl (h.cellB rfl) rfl rfl ?_)))
  refine WT.dec 4 rfl (by kernel_rfl) (fun w' => (run_geq rfl rfl)) rfl rfl (fun c59 => ?_) (fun c59 => ?_)
  ·
   refine WT.pure 5 rfl (by kernel_rfl) (fun w' => run_move) rfl rfl (WT.pure 6 rfl (by kernel_rfl) (fun w' => run_move) rfl rfl (WT.pure 7 rfl (by kernel_rfl) (fun w' => (run_nilCheck rfl)) rfl rfl (WT.pure 8 rfl (by kernel_rfl) (fun w' => (run_fieldAddr 8 Tryz.underlying128 rfl Tryz.sizeOf3 rfl rfl)) rfl rfl (WT.load1 9 rfl (by kernel_rfl) Tryz.isAgg3 rfl (h.cellB rfl) rfl rfl (WT.pure 10 rfl (by kernel_rfl) (fun w' => run_move) rfl rfl ?_)))))
   refine WT.dec 11 rfl (by kernel_rfl) (fun w' => (run_neq rfl rfl)) rfl rfl (fun c66 => ?_) (fun c66 => ?_)
   ·
    refine WT.pure 12 rfl (by kernel_rfl) (fun w' => (run_pickT rfl)) rfl rfl (WT.pure 13 rfl (by kernel_rfl) (fun w' => run_move) rfl rfl (WT.pure 14 rfl (by kernel_rfl) (fun w' => run_move) rfl rfl (WT.pure 15 rfl (by kernel_rfl) (fun w' => run_move) rfl rfl (WT.pure 16 rfl (by kernel_rfl) (fun w' => (run_nilCheck rfl)) rfl rfl (WT.pure 17 rfl (by kernel_rfl) (fun w' => (run_fieldAddr 8 Tryz.underlying128 rfl Tryz.sizeOf3 rfl rfl)) rfl rfl (WT.load1 18 rfl (by kernel_rfl) Tryz.isAgg3 rfl (h.cellB rfl) rfl rfl (WT.pure 19 rfl (by kernel_rfl) (fun w' => (run_nilCheck rfl)) rfl rfl ?_)))))))
    refine WT.pure 20 rfl (by kernel_rfl) (fun w' => (run_fieldAddr 0 Tryz.underlying128 rfl Tryz.sizeOf102 rfl rfl)) rfl rfl (WT.pure 21 rfl (by kernel_rfl) (fun w' => (run_indexAddrArr Tryz.underlying102 Tryz.sizeOf23 rfl rfl (by omega) (by omega))) rfl rfl (WT.load1 22 rfl (by kernel_rfl) Tryz.isAgg23 rfl (h.cellB (cells_atI (by omega) (by omega))) rfl rfl (WT.pure 23 rfl (by kernel_rfl) (fun w' => run_move) rfl rfl ?_)))
    refine WT.dec 24 rfl (by kernel_rfl) (fun w' => (run_eql rfl rfl)) rfl rfl (fun c79 => ?_) (fun c79 => ?_)
    ·
     refine WT.pure 25 rfl (by kernel_rfl) (fun w' => (run_pickT rfl)) rfl rfl (WT.done (by kernel_rfl) (W.condT rfl (W.seq (W.seq ?_))))
     have htk : takesP t i other := ⟨by omega, c66, c79⟩
     refine W.region (WL.val run_move rfl rfl (WL.eff (eff_call Tryz.call125 (ris_ok h)) rfl rfl ?_))
     rintro _ w ⟨hv, h⟩
     have hcs := Bool.eq_false_or_eq_true (typedB typ)
     rcases hcs with hty | hty <;> (rw [hty] at hv; subst hv)
     ·
      refine WL.val (run_not rfl) rfl rfl (WL.nil (W.condF rfl (W.skip (W.seq (W.region (WL.val run_move rfl rfl (WL.val run_move rfl rfl ?_)))))))
      refine WL.val (run_nilCheck rfl) rfl rfl (WL.val (run_fieldAddr 8 Tryz.underlying128 rfl Tryz.sizeOf3 rfl rfl) rfl rfl (WL.eff (eff_store (v := .int .i64 _) h Tryz.sizeOf3 rfl rfl rfl rfl rfl) rfl rfl ?_))
      rintro _ w h
      try simp only [Nat.zero_add, Nat.add_zero, List.set_cons_zero, List.set_cons_succ] at h
      refine WL.nil (W.region (WL.val run_move rfl rfl (WL.val run_move rfl rfl (WL.val (run_nilCheck rfl) rfl rfl (WL.val (run_fieldAddr 9 Tryz.underlying128 rfl Tryz.sizeOf3 rfl rfl) rfl rfl (WL.eff (eff_store (v := .int .i64 _) h Tryz.sizeOf3 rfl rfl rfl rfl rfl) rfl rfl ?_))))))
      rintro _ w h
      try simp only [Nat.zero_add, Nat.add_zero, List.set_cons_zero, List.set_cons_succ] at h
      refine WL.nil (W.seq (W.seq ?_))
      have h := h.fetch (blk b ((t.cells.set (0 + 8) (.int .i64 (i : Int))).set (0 + 9) (.int .i64 typ)) 128)
      have h : On W0 (blk b (t.take i typ).cells 128 :: _) w := h
      have h := On.zer0 (l := (preL t i other)) (h.fetch (blk b (t.take i typ).cells 128))
      refine W.region (WL.val run_assign rfl rfl (WL.nil (W.block ?_)))
      refine W.loop (fun (q : Nat) env w => ∃ j, env = mkE j [(0, .pointer (some ⟨b, 0, none⟩)), (10, .pointer (some ⟨b10, 0, none⟩)), (12, .slice a (preL t i other).length c), (14, .int .i64 (q : Int))] ∧ q ≤ (preL t i other).length ∧ On W0 (Own 2 (.slice a (preL t i other).length c) (preL t i other).length (notesV 10757 ((preL t i other))) :: blk b (zer (t.take i typ) ((preL t i other).take q)).cells 128 :: blk b10 [.int .i64 0, .int .i64 0, .int .i64 0, .slice none 0 0, .int .i64 0] 36 :: L) w) (fun q => (preL t i other).length - q) (0) ?_ ?_
      · exact ⟨_, mkE_of ⟨rfl, rfl, rfl, rfl, trivial⟩, Nat.zero_le _, h.to⟩
      rintro q env w ⟨j, rfl, hq, h⟩
      refine W.seq (W.seq (W.region (WL.val run_move rfl rfl (WL.val run_move rfl rfl (WL.val (run_lenSlice Tryz.underlying117 rfl) rfl rfl (WL.val (run_lss rfl rfl) rfl rfl (WL.nil ?_)))))))
      refine W.condIf rfl (fun c48 => ?_) (fun c48 => ?_)
      ·
       refine W.skip (W.seq ?_)
       have hql : q < (preL t i other).length := by omega
       have hn : ∃ n, (preL t i other)[q]? = some n := ⟨(preL t i other)[q], by simp⟩
       obtain ⟨n, hn⟩ := hn
       have hn8 : n < 8 := (hostsN_mem.1 (List.mem_of_getElem? hn)).1
       have ha := Own.addr h (by omega)
       obtain ⟨bn, on, hal⟩ := ha
       subst hal
       refine W.block ?_
       refine W.draw Tryz.follows h (fun w h => ?_)
       refine WT.pure 0 rfl (by kernel_rfl) (fun w' => run_move) rfl rfl (WT.pure 1 rfl (by kernel_rfl) (fun w' => run_move) rfl rfl (WT.pure 2 rfl (by kernel_rfl) (fun w' => run_move) rfl rfl (WT.pure 3 rfl (by kernel_rfl) (fun w' => (run_indexAddr Tryz.underlying117 Tryz.sizeOf187 rfl rfl (by omega) (by omega))) rfl rfl (WT.pure 4 rfl (by kernel_rfl) (fun w' => (run_fieldAddr 0 Tryz.underlying187 rfl Tryz.sizeOf3 rfl rfl)) rfl rfl (WT.load1 5 rfl (by kernel_rfl) Tryz.isAgg3 rfl ((h.cellsO (v := .slice (some ⟨bn, on, none⟩) (preL t i other).length c)).elem (i := q) (vs := noteV 10757 n) hql (drop_flatMap (noteV 10757) 2 (noteV_length 10757) (preL t i other) _ _ hn) 0 _ rfl) rfl rfl (WT.pure 6 rfl (by kernel_rfl) (fun w' => (run_nilCheck rfl)) rfl rfl (WT.pure 7 rfl (by kernel_rfl) (fun w' => (run_fieldAddr 0 Tryz.underlying128 rfl Tryz.sizeOf102 rfl rfl)) rfl rfl ?_)))))))
       refine WT.pure 8 rfl (by kernel_rfl) (fun w' => (run_indexAddrArr Tryz.underlying102 Tryz.sizeOf23 rfl rfl (by omega) (by omega))) rfl rfl (WT.eff 9 [false] rfl (by kernel_rfl) (by kernel_rfl) (eff_store (v := .int .u64 _) h Tryz.sizeOf23 rfl rfl rfl (cells_lt hn8) (free0 _)) rfl rfl ?_)
       rintro _ w h
       rw [cells_set hn8, ← zer_snoc, ← RsM.take_snoc hn] at h
       refine ⟨trivial, ?_⟩
       refine WT.done (by kernel_rfl) (W.region (WL.val run_move rfl rfl (WL.val (run_incN rfl rfl (by omega)) rfl rfl (WL.val run_assign rfl rfl (WL.nil ?_)))))
       exact ⟨q + 1, ⟨_, mkE_of ⟨rfl, rfl, rfl, rfl, trivial⟩, by omega, h.to⟩, by show (preL t i other).length - (q + 1) < (preL t i other).length - q; omega⟩
      refine W.exit (W.seq ?_)
      have ob_ : q = (preL t i other).length := by omega
      obtain rfl := ob_
      rw [List.take_length] at h
      have h := h.fetch (blk b (zer (t.take i typ) (preL t i other)).cells 128)
      refine W.region (WL.val run_move rfl rfl (WL.val (run_nilCheck rfl) rfl rfl (WL.val (run_fieldAddr 10 Tryz.underlying128 rfl Tryz.sizeOf126 rfl rfl) rfl rfl (WL.val (run_load1 Tryz.isAgg126 rfl (h.cellB rfl)) rfl rfl (WL.val (run_addW rfl rfl) rfl rfl (WL.val (run_nilCheck rfl) rfl rfl (WL.val (run_fieldAddr 10 Tryz.underlying128 rfl Tryz.sizeOf126 rfl rfl) rfl rfl ?_)))))))
      refine WL.eff (eff_store (v := .int .u32 _) h Tryz.sizeOf126 rfl rfl rfl rfl rfl) rfl rfl ?_
      rintro _ w h
      try simp only [Nat.zero_add, Nat.add_zero, List.set_cons_zero, List.set_cons_succ] at h
      refine WL.nil (W.seq ?_)
      have et0 : preT t i other typ = (zer (t.take i typ) (preL t i other)).inc := by unfold preT preT0; rw [if_pos htk]; rfl
      have h := h.fetch (blk b ((zer (t.take i typ) (preL t i other)).cells.set (0 + 10) (.int .u32 (IntKind.u32.wrap ((zer (t.take i typ) (preL t i other)).gen + 1)))) 128)
      have h : On W0 (blk b (zer (t.take i typ) (preL t i other)).inc.cells 128 :: _) w := h
      rw [← et0] at h
      refine W.region (WL.eff (eff_call Tryz.call122 (rgood_ok h)) rfl rfl ?_)
      rintro _ w ⟨rfl, h⟩
      refine WL.val run_move rfl rfl (WL.eff (eff_storeW (vs := [.int .i64 _, .int .i64 _, .int .i64 _, .slice _ _ _, .int .i64 _]) h Tryz.sizeOf36 rfl rfl rfl rfl rfl) rfl rfl ?_)
      rintro _ w h
      refine WL.val run_assign rfl rfl (WL.nil (W.ret (bodyQ.rctB (vs := [.int .i64 _, .int .i64 _, .int .i64 _, .slice _ _ _, .int .i64 _]) (v2 := .slice _ _ _) h Tryz.results67 Tryz.isAgg36 Tryz.sizeOf36 rfl rfl rfl rfl ?_)))
      have e : preF t i key other typ = ⟨preT t i other typ, plain 0 0 0, preL t i other, 10757⟩ := by unfold preF; rw [if_neg (by rw [hok]; decide), if_neg c11, if_neg (fun e => c30 (by rw [show (hostsN t.K i (fun x => decide (x = other)) 8) = [] from e]; rfl)), if_neg (fun hx => by rw [hx.2] at hty; cases hty)]
      rw [e]
      dsimp only
      exact ⟨a, c, rfl, h.to⟩
     refine WL.val (run_not rfl) rfl rfl (WL.nil (W.condT rfl (W.seq (W.region (WL.eff (eff_call Tryz.call120 (rwrong_ok h)) rfl rfl ?_)))))
     rintro _ w ⟨rfl, h⟩
     refine WL.eff (eff_storeW (vs := [.int .i64 _, .int .i64 _, .int .i64 _, .slice _ _ _, .int .i64 _]) h Tryz.sizeOf36 rfl rfl rfl rfl rfl) rfl rfl ?_
     rintro _ w h
     refine WL.val run_assign rfl rfl (WL.nil (W.ret (bodyQ.rctB (vs := [.int .i64 _, .int .i64 _, .int .i64 _, .slice _ _ _, .int .i64 _]) (v2 := .slice _ _ _) h Tryz.results67 Tryz.isAgg36 Tryz.sizeOf36 rfl rfl rfl rfl ?_)))
     have h : On W0 (Own 2 (.slice none 0 0) 0 (notesV 0 []) :: _) w := h.ownEmpty 2 none
     have e : preF t i key other typ = ⟨t, plain 2 5 9216, [], 0⟩ := by unfold preF; rw [if_neg (by rw [hok]; decide), if_neg c11, if_neg (fun e => c30 (by rw [show (hostsN t.K i (fun x => decide (x = other)) 8) = [] from e]; rfl)), if_pos ⟨htk, hty⟩]
     rw [e]
     dsimp only
     exact ⟨none, 0, rfl, h.to⟩
    refine WT.pure 25 rfl (by kernel_rfl) (fun w' => (run_pickT rfl)) rfl rfl (WT.done (by kernel_rfl) (W.condF rfl (W.skip (W.seq (W.seq ?_)))))
    have htk : ¬ takesP t i other := fun hx => c79 hx.2.2
    have h := On.zer0 (l := (preL t i other)) (h.fetch (blk b t.cells 128))
    refine W.region (WL.val run_assign rfl rfl (WL.nil (W.block ?_)))
    refine W.loop (fun (q : Nat) env w => ∃ j, env = mkE j [(0, .pointer (some ⟨b, 0, none⟩)), (10, .pointer (some ⟨b10, 0, none⟩)), (12, .slice a (preL t i other).length c), (14, .int .i64 (q : Int))] ∧ q ≤ (preL t i other).length ∧ On W0 (Own 2 (.slice a (preL t i other).length c) (preL t i other).length (notesV 10757 ((preL t i other))) :: blk b (zer t ((preL t i other).take q)).cells 128 :: blk b10 [.int .i64 0, .int .i64 0, .int .i64 0, .slice none 0 0, .int .i64 0] 36 :: L) w) (fun q => (preL t i other).length - q) (0) ?_ ?_
    · exact ⟨_, mkE_of ⟨rfl, rfl, rfl, rfl, trivial⟩, Nat.zero_le _, h.to⟩
    rintro q env w ⟨j, rfl, hq, h⟩
    refine W.seq (W.seq (W.region (WL.val run_move rfl rfl (WL.val run_move rfl rfl (WL.val (run_lenSlice Tryz.underlying117 rfl) rfl rfl (WL.val (run_lss rfl rfl) rfl rfl (WL.nil ?_)))))))
    refine W.condIf rfl (fun c48 => ?_) (fun c48 => ?_)
    ·
     refine W.skip (W.seq ?_)
     have hql : q < (preL t i other).length := by omega
     have hn : ∃ n, (preL t i other)[q]? = some n := ⟨(preL t i other)[q], by simp⟩
     obtain ⟨n, hn⟩ := hn
     have hn8 : n < 8 := (hostsN_mem.1 (List.mem_of_getElem? hn)).1
     have ha := Own.addr h (by omega)
     obtain ⟨bn, on, hal⟩ := ha
     subst hal
     refine W.block ?_
     refine W.draw Tryz.follows h (fun w h => ?_)
     refine WT.pure 0 rfl (by kernel_rfl) (fun w' => run_move) rfl rfl (WT.pure 1 rfl (by kernel_rfl) (fun w' => run_move) rfl rfl (WT.pure 2 rfl (by kernel_rfl) (fun w' => run_move) rfl rfl (WT.pure 3 rfl (by kernel_rfl) (fun w' => (run_indexAddr Tryz.underlying117 Tryz.sizeOf187 rfl rfl (by omega) (by omega))) rfl rfl (WT.pure 4 rfl (by kernel_rfl) (fun w' => (run_fieldAddr 0 Tryz.underlying187 rfl Tryz.sizeOf3 rfl rfl)) rfl rfl (WT.load1 5 rfl (by kernel_rfl) Tryz.isAgg3 rfl ((h.cellsO (v := .slice (some ⟨bn, on, none⟩) (preL t i other).length c)).elem (i := q) (vs := noteV 10757 n) hql (drop_flatMap (noteV 10757) 2 (noteV_length 10757) (preL t i other) _ _ hn) 0 _ rfl) rfl rfl (WT.pure 6 rfl (by kernel_rfl) (fun w' => (run_nilCheck rfl)) rfl rfl (WT.pure 7 rfl (by kernel_rfl) (fun w' => (run_fieldAddr 0 Tryz.underlying128 rfl Tryz.sizeOf102 rfl rfl)) rfl rfl ?_)))))))
     refine WT.pure 8 rfl (by kernel_rfl) (fun w' => (run_indexAddrArr Tryz.underlying102 Tryz.sizeOf23 rfl rfl (by omega) (by omega))) rfl rfl (WT.eff 9 [false] rfl (by kernel_rfl) (by kernel_rfl) (eff_store (v := .int .u64 _) h Tryz.sizeOf23 rfl rfl rfl (cells_lt hn8) (free0 _)) rfl rfl ?_)
     rintro _ w h
     rw [cells_set hn8, ← zer_snoc, ← RsM.take_snoc hn] at h
     refine ⟨trivial, ?_⟩
     refine WT.done (by kernel_rfl) (W.region (WL.val run_move rfl rfl (WL.val (run_incN rfl rfl (by omega)) rfl rfl (WL.val run_assign rfl rfl (WL.nil ?_)))))
     exact ⟨q + 1, ⟨_, mkE_of ⟨rfl, rfl, rfl, rfl, trivial⟩, by omega, h.to⟩, by show (preL t i other).length - (q + 1) < (preL t i other).length - q; omega⟩
    refine W.exit (W.seq ?_)
    have ob_ : q = (preL t i other).length := by omega
    obtain rfl := ob_
    rw [List.take_length] at h
    have h := h.fetch (blk b (zer t (preL t i other)).cells 128)
    refine W.region (WL.val run_move rfl rfl (WL.val (run_nilCheck rfl) rfl rfl (WL.val (run_fieldAddr 10 Tryz.underlying128 rfl Tryz.sizeOf126 rfl rfl) rfl rfl (WL.val (run_load1 Tryz.isAgg126 rfl (h.cellB rfl)) rfl rfl (WL.val (run_addW rfl rfl) rfl rfl (WL.val (run_nilCheck rfl) rfl rfl (WL.val (run_fieldAddr 10 Tryz.underlying128 rfl Tryz.sizeOf126 rfl rfl) rfl rfl ?_)))))))
    refine WL.eff (eff_store (v := .int .u32 _) h Tryz.sizeOf126 rfl rfl rfl rfl rfl) rfl rfl ?_
    rintro _ w h
    try simp only [Nat.zero_add, Nat.add_zero, List.set_cons_zero, List.set_cons_succ] at h
    refine WL.nil (W.seq ?_)
    have et0 : preT t i other typ = (zer t (preL t i other)).inc := by unfold preT preT0; rw [if_neg htk]; rfl
    have h := h.fetch (blk b ((zer t (preL t i other)).cells.set (0 + 10) (.int .u32 (IntKind.u32.wrap ((zer t (preL t i other)).gen + 1)))) 128)
    have h : On W0 (blk b (zer t (preL t i other)).inc.cells 128 :: _) w := h
    rw [← et0] at h
    refine W.region (WL.eff (eff_call Tryz.call122 (rgood_ok h)) rfl rfl ?_)
    rintro _ w ⟨rfl, h⟩
    refine WL.val run_move rfl rfl (WL.eff (eff_storeW (vs := [.int .i64 _, .int .i64 _, .int .i64 _, .slice _ _ _, .int .i64 _]) h Tryz.sizeOf36 rfl rfl rfl rfl rfl) rfl rfl ?_)
    rintro _ w h
    refine WL.val run_assign rfl rfl (WL.nil (W.ret (bodyQ.rctB (vs := [.int .i64 _, .int .i64 _, .int .i64 _, .slice _ _ _, .int .i64 _]) (v2 := .slice _ _ _) h Tryz.results67 Tryz.isAgg36 Tryz.sizeOf36 rfl rfl rfl rfl ?_)))
    have e : preF t i key other typ = ⟨preT t i other typ, plain 0 0 0, preL t i other, 10757⟩ := by unfold preF; rw [if_neg (by rw [hok]; decide), if_neg c11, if_neg (fun e => c30 (by rw [show (hostsN t.K i (fun x => decide (x = other)) 8) = [] from e]; rfl)), if_neg (fun hx => htk hx.1)]
    rw [e]
    dsimp only
    exact ⟨a, c, rfl, h.to⟩
   refine WT.pure 12 rfl (by kernel_rfl) (fun w' => (run_pickT rfl)) rfl rfl (WT.pure 13 rfl (by kernel_rfl) (fun w' => run_move) rfl rfl (WT.skip 14 rfl (by kernel_rfl) rfl rfl (WT.skip 15 rfl (by kernel_rfl) rfl rfl (WT.skip 16 rfl (by kernel_rfl) rfl rfl (WT.skip 17 rfl (by kernel_rfl) rfl rfl (WT.skip 18 rfl (by kernel_rfl) rfl rfl (WT.skip 19 rfl (by kernel_rfl) rfl rfl ?_)))))))
   refine WT.skip 20 rfl (by kernel_rfl) rfl rfl (WT.skip 21 rfl (by kernel_rfl) rfl rfl (WT.skip 22 rfl (by kernel_rfl) rfl rfl (WT.skip 23 rfl (by kernel_rfl) rfl rfl (WT.skip 24 rfl (by kernel_rfl) rfl rfl (WT.pure 25 rfl (by kernel_rfl) (fun w' => (run_pickF rfl)) rfl rfl (WT.done (by kernel_rfl) (W.condF rfl ?_)))))))
   refine W.skip (W.seq (W.seq ?_))
   have htk : ¬ takesP t i other := fun hx => c66 hx.2.1
   have h := On.zer0 (l := (preL t i other)) (h.fetch (blk b t.cells 128))
   refine W.region (WL.val run_assign rfl rfl (WL.nil (W.block ?_)))
   refine W.loop (fun (q : Nat) env w => ∃ j, env = mkE j [(0, .pointer (some ⟨b, 0, none⟩)), (10, .pointer (some ⟨b10, 0, none⟩)), (12, .slice a (preL t i other).length c), (14, .int .i64 (q : Int))] ∧ q ≤ (preL t i other).length ∧ On W0 (Own 2 (.slice a (preL t i other).length c) (preL t i other).length (notesV 10757 ((preL t i other))) :: blk b (zer t ((preL t i other).take q)).cells 128 :: blk b10 [.int .i64 0, .int .i64 0, .int .i64 0, .slice none 0 0, .int .i64 0] 36 :: L) w) (fun q => (preL t i other).length - q) (0) ?_ ?_
   · exact ⟨_, mkE_of ⟨rfl, rfl, rfl, rfl, trivial⟩, Nat.zero_le _, h.to⟩
   rintro q env w ⟨j, rfl, hq, h⟩
   refine W.seq (W.seq (W.region (WL.val run_move rfl rfl (WL.val run_move rfl rfl (WL.val (run_lenSlice Tryz.underlying117 rfl) rfl rfl (WL.val (run_lss rfl rfl) rfl rfl (WL.nil ?_)))))))
   refine W.condIf rfl (fun c48 => ?_) (fun c48 => ?_)
   ·
    refine W.skip (W.seq ?_)
    have hql : q < (preL t i other).length := by omega
    have hn : ∃ n, (preL t i other)[q]? = some n := ⟨(preL t i other)[q], by simp⟩
    obtain ⟨n, hn⟩ := hn
    have hn8 : n < 8 := (hostsN_mem.1 (List.mem_of_getElem? hn)).1
    have ha := Own.addr h (by omega)
    obtain ⟨bn, on, hal⟩ := ha
    subst hal
    refine W.block ?_
    refine W.draw Tryz.follows h (fun w h => ?_)
    refine WT.pure 0 rfl (by kernel_rfl) (fun w' => run_move) rfl rfl (WT.pure 1 rfl (by kernel_rfl) (fun w' => run_move) rfl rfl (WT.pure 2 rfl (by kernel_rfl) (fun w' => run_move) rfl rfl (WT.pure 3 rfl (by kernel_rfl) (fun w' => (run_indexAddr Tryz.underlying117 Tryz.sizeOf187 rfl rfl (by omega) (by omega))) rfl rfl (WT.pure 4 rfl (by kernel_rfl) (fun w' => (run_fieldAddr 0 Tryz.underlying187 rfl Tryz.sizeOf3 rfl rfl)) rfl rfl (WT.load1 5 rfl (by kernel_rfl) Tryz.isAgg3 rfl ((h.cellsO (v := .slice (some ⟨bn, on, none⟩) (preL t i other).length c)).elem (i := q) (vs := noteV 10757 n) hql (drop_flatMap (noteV 10757) 2 (noteV_length 10757) (preL t i other) _ _ hn) 0 _ rfl) rfl rfl (WT.pure 6 rfl (by kernel_rfl) (fun w' => (run_nilCheck rfl)) rfl rfl (WT.pure 7 rfl (by kernel_rfl) (fun w' => (run_fieldAddr 0 Tryz.underlying128 rfl Tryz.sizeOf102 rfl rfl)) rfl rfl ?_)))))))
    refine WT.pure 8 rfl (by kernel_rfl) (fun w' => (run_indexAddrArr Tryz.underlying102 Tryz.sizeOf23 rfl rfl (by omega) (by omega))) rfl rfl (WT.eff 9 [false] rfl (by kernel_rfl) (by kernel_rfl) (eff_store (v := .int .u64 _) h Tryz.sizeOf23 rfl rfl rfl (cells_lt hn8) (free0 _)) rfl rfl ?_)
    rintro _ w h
    rw [cells_set hn8, ← zer_snoc, ← RsM.take_snoc hn] at h
    refine ⟨trivial, ?_⟩
    refine WT.done (by kernel_rfl) (W.region (WL.val run_move rfl rfl (WL.val (run_incN rfl rfl (by omega)) rfl rfl (WL.val run_assign rfl rfl (WL.nil ?_)))))
    exact ⟨q + 1, ⟨_, mkE_of ⟨rfl, rfl, rfl, rfl, trivial⟩, by omega, h.to⟩, by show (preL t i other).length - (q + 1) < (preL t i other).length - q; omega⟩
   refine W.exit (W.seq ?_)
   have ob_ : q = (preL t i other).length := by omega
   obtain rfl := ob_
   rw [List.take_length] at h
   have h := h.fetch (blk b (zer t (preL t i other)).cells 128)
   refine W.region (WL.val run_move rfl rfl (WL.val (run_nilCheck rfl) rfl rfl (WL.val (run_fieldAddr 10 Tryz.underlying128 rfl Tryz.sizeOf126 rfl rfl) rfl rfl (WL.val (run_load1 Tryz.isAgg126 rfl (h.cellB rfl)) rfl rfl (WL.val (run_addW rfl rfl) rfl rfl (WL.val (run_nilCheck rfl) rfl rfl (WL.val (run_fieldAddr 10 Tryz.underlying128 rfl Tryz.sizeOf126 rfl rfl) rfl rfl ?_)))))))
   refine WL.eff (eff_store (v := .int .u32 _) h Tryz.sizeOf126 rfl rfl rfl rfl rfl) rfl rfl ?_
   rintro _ w h
   try simp only [Nat.zero_add, Nat.add_zero, List.set_cons_zero, List.set_cons_succ] at h
   refine WL.nil (W.seq ?_)
   have et0 : preT t i other typ = (zer t (preL t i other)).inc := by unfold preT preT0; rw [if_neg htk]; rfl
   have h := h.fetch (blk b ((zer t (preL t i other)).cells.set (0 + 10) (.int .u32 (IntKind.u32.wrap ((zer t (preL t i other)).gen + 1)))) 128)
   have h : On W0 (blk b (zer t (preL t i other)).inc.cells 128 :: _) w := h
   rw [← et0] at h
   refine W.region (WL.eff (eff_call Tryz.call122 (rgood_ok h)) rfl rfl ?_)
   rintro _ w ⟨rfl, h⟩
   refine WL.val run_move rfl rfl (WL.eff (eff_storeW (vs := [.int .i64 _, .int .i64 _, .int .i64 _, .slice _ _ _, .int .i64 _]) h Tryz.sizeOf36 rfl rfl rfl rfl rfl) rfl rfl ?_)
   rintro _ w h
   refine WL.val run_assign rfl rfl (WL.nil (W.ret (bodyQ.rctB (vs := [.int .i64 _, .int .i64 _, .int .i64 _, .slice _ _ _, .int .i64 _]) (v2 := .slice _ _ _) h Tryz.results67 Tryz.isAgg36 Tryz.sizeOf36 rfl rfl rfl rfl ?_)))
   have e : preF t i key other typ = ⟨preT t i other typ, plain 0 0 0, preL t i other, 10757⟩ := by unfold preF; rw [if_neg (by rw [hok]; decide), if_neg c11, if_neg (fun e => c30 (by rw [show (hostsN t.K i (fun x => decide (x = other)) 8) = [] from e]; rfl)), if_neg (fun hx => htk hx.1)]
   rw [e]
   dsimp only
   exact ⟨a, c, rfl, h.to⟩
  refine WT.pure 5 rfl (by kernel_rfl) (fun w' => run_move) rfl rfl (WT.skip 6 rfl (by kernel_rfl) rfl rfl (WT.skip 7 rfl (by kernel_rfl) rfl rfl (WT.skip 8 rfl (by kernel_rfl) rfl rfl (WT.skip 9 rfl (by kernel_rfl) rfl rfl (WT.skip 10 rfl (by kernel_rfl) rfl rfl (WT.skip 11 rfl (by kernel_rfl) rfl rfl (WT.pure 12 rfl (by kernel_rfl) (fun w' => (run_pickF rfl)) rfl rfl ?_)))))))
  refine WT.pure 13 rfl (by kernel_rfl) (fun w' => run_move) rfl rfl (WT.skip 14 rfl (by kernel_rfl) rfl rfl (WT.skip 15 rfl (by kernel_rfl) rfl rfl (WT.skip 16 rfl (by kernel_rfl) rfl rfl (WT.skip 17 rfl (by kernel_rfl) rfl rfl (WT.skip 18 rfl (by kernel_rfl) rfl rfl (WT.skip 19 rfl (by kernel_rfl) rfl rfl (WT.skip 20 rfl (by kernel_rfl) rfl rfl ?_)))))))
  refine WT.skip 21 rfl (by kernel_rfl) rfl rfl (WT.skip 22 rfl (by kernel_rfl) rfl rfl (WT.skip 23 rfl (by kernel_rfl) rfl rfl (WT.skip 24 rfl (by kernel_rfl) rfl rfl (WT.pure 25 rfl (by kernel_rfl) (fun w' => (run_pickF rfl)) rfl rfl (WT.done (by kernel_rfl) (W.condF rfl (W.skip ?_)))))))
  refine W.seq (W.seq ?_)
  have htk : ¬ takesP t i other := fun hx => c59 (by have := hx.1; omega)
  have h := On.zer0 (l := (preL t i other)) (h.fetch (blk b t.cells 128))
  refine W.region (WL.val run_assign rfl rfl (WL.nil (W.block ?_)))
  refine W.loop (fun (q : Nat) env w => ∃ j, env = mkE j [(0, .pointer (some ⟨b, 0, none⟩)), (10, .pointer (some ⟨b10, 0, none⟩)), (12, .slice a (preL t i other).length c), (14, .int .i64 (q : Int))] ∧ q ≤ (preL t i other).length ∧ On W0 (Own 2 (.slice a (preL t i other).length c) (preL t i other).length (notesV 10757 ((preL t i other))) :: blk b (zer t ((preL t i other).take q)).cells 128 :: blk b10 [.int .i64 0, .int .i64 0, .int .i64 0, .slice none 0 0, .int .i64 0] 36 :: L) w) (fun q => (preL t i other).length - q) (0) ?_ ?_
  · exact ⟨_, mkE_of ⟨rfl, rfl, rfl, rfl, trivial⟩, Nat.zero_le _, h.to⟩
  rintro q env w ⟨j, rfl, hq, h⟩
  refine W.seq (W.seq (W.region (WL.val run_move rfl rfl (WL.val run_move rfl rfl (WL.val (run_lenSlice Tryz.underlying117 rfl) rfl rfl (WL.val (run_lss rfl rfl) rfl rfl (WL.nil ?_)))))))
  refine W.condIf rfl (fun c48 => ?_) (fun c48 => ?_)
  ·
   refine W.skip (W.seq ?_)
   have hql : q < (preL t i other).length := by omega
   have hn : ∃ n, (preL t i other)[q]? = some n := ⟨(preL t i other)[q], by simp⟩
   obtain ⟨n, hn⟩ := hn
   have hn8 : n < 8 := (hostsN_mem.1 (List.mem_of_getElem? hn)).1
   have ha := Own.addr h (by omega)
   obtain ⟨bn, on, hal⟩ := ha
   subst hal
   refine W.block ?_
   refine W.draw Tryz.follows h (fun w h => ?_)
   refine WT.pure 0 rfl (by kernel_rfl) (fun w' => run_move) rfl rfl (WT.pure 1 rfl (by kernel_rfl) (fun w' => run_move) rfl rfl (WT.pure 2 rfl (by kernel_rfl) (fun w' => run_move) rfl rfl (WT.pure 3 rfl (by kernel_rfl) (fun w' => (run_indexAddr Tryz.underlying117 Tryz.sizeOf187 rfl rfl (by omega) (by omega))) rfl rfl (WT.pure 4 rfl (by kernel_rfl) (fun w' => (run_fieldAddr 0 Tryz.underlying187 rfl Tryz.sizeOf3 rfl rfl)) rfl rfl (WT.load1 5 rfl (by kernel_rfl) Tryz.isAgg3 rfl ((h.cellsO (v := .slice (some ⟨bn, on, none⟩) (preL t i other).length c)).elem (i := q) (vs := noteV 10757 n) hql (drop_flatMap (noteV 10757) 2 (noteV_length 10757) (preL t i other) _ _ hn) 0 _ rfl) rfl rfl (WT.pure 6 rfl (by kernel_rfl) (fun w' => (run_nilCheck rfl)) rfl rfl (WT.pure 7 rfl (by kernel_rfl) (fun w' => (run_fieldAddr 0 Tryz.underlying128 rfl Tryz.sizeOf102 rfl rfl)) rfl rfl ?_)))))))
   refine WT.pure 8 rfl (by kernel_rfl) (fun w' => (run_indexAddrArr Tryz.underlying102 Tryz.sizeOf23 rfl rfl (by omega) (by omega))) rfl rfl (WT.eff 9 [false] rfl (by kernel_rfl) (by kernel_rfl) (eff_store (v := .int .u64 _) h Tryz.sizeOf23 rfl rfl rfl (cells_lt hn8) (free0 _)) rfl rfl ?_)
   rintro _ w h
   rw [cells_set hn8, ← zer_snoc, ← RsM.take_snoc hn] at h
   refine ⟨trivial, ?_⟩
   refine WT.done (by kernel_rfl) (W.region (WL.val run_move rfl rfl (WL.val (run_incN rfl rfl (by omega)) rfl rfl (WL.val run_assign rfl rfl (WL.nil ?_)))))
   exact ⟨q + 1, ⟨_, mkE_of ⟨rfl, rfl, rfl, rfl, trivial⟩, by omega, h.to⟩, by show (preL t i other).length - (q + 1) < (preL t i other).length - q; omega⟩
  refine W.exit (W.seq ?_)
  have ob_ : q = (preL t i other).length := by omega
  obtain rfl := ob_
  rw [List.take_length] at h
  have h := h.fetch (blk b (zer t (preL t i other)).cells 128)
  refine W.region (WL.val run_move rfl rfl (WL.val (run_nilCheck rfl) rfl rfl (WL.val (run_fieldAddr 10 Tryz.underlying128 rfl Tryz.sizeOf126 rfl rfl) rfl rfl (WL.val (run_load1 Tryz.isAgg126 rfl (h.cellB rfl)) rfl rfl (WL.val (run_addW rfl rfl) rfl rfl (WL.val (run_nilCheck rfl) rfl rfl (WL.val (run_fieldAddr 10 Tryz.underlying128 rfl Tryz.sizeOf126 rfl rfl) rfl rfl ?_)))))))
  refine WL.eff (eff_store (v := .int .u32 _) h Tryz.sizeOf126 rfl rfl rfl rfl rfl) rfl rfl ?_
  rintro _ w h
  try simp only [Nat.zero_add, Nat.add_zero, List.set_cons_zero, List.set_cons_succ] at h
  refine WL.nil (W.seq ?_)
  have et0 : preT t i other typ = (zer t (preL t i other)).inc := by unfold preT preT0; rw [if_neg htk]; rfl
  have h := h.fetch (blk b ((zer t (preL t i other)).cells.set (0 + 10) (.int .u32 (IntKind.u32.wrap ((zer t (preL t i other)).gen + 1)))) 128)
  have h : On W0 (blk b (zer t (preL t i other)).inc.cells 128 :: _) w := h
  rw [← et0] at h
  refine W.region (WL.eff (eff_call Tryz.call122 (rgood_ok h)) rfl rfl ?_)
  rintro _ w ⟨rfl, h⟩
  refine WL.val run_move rfl rfl (WL.eff (eff_storeW (vs := [.int .i64 _, .int .i64 _, .int .i64 _, .slice _ _ _, .int .i64 _]) h Tryz.sizeOf36 rfl rfl rfl rfl rfl) rfl rfl ?_)
  rintro _ w h
  refine WL.val run_assign rfl rfl (WL.nil (W.ret (bodyQ.rctB (vs := [.int .i64 _, .int .i64 _, .int .i64 _, .slice _ _ _, .int .i64 _]) (v2 := .slice _ _ _) h Tryz.results67 Tryz.isAgg36 Tryz.sizeOf36 rfl rfl rfl rfl ?_)))
  have e : preF t i key other typ = ⟨preT t i other typ, plain 0 0 0, preL t i other, 10757⟩ := by unfold preF; rw [if_neg (by rw [hok]; decide), if_neg c11, if_neg (fun e => c30 (by rw [show (hostsN t.K i (fun x => decide (x = other)) 8) = [] from e]; rfl)), if_neg (fun hx => htk hx.1)]
  rw [e]
  dsimp only
  exact ⟨a, c, rfl, h.to⟩

theorem rallows_ok {b i : Nat} {t : Tb} {kind : Int} (hi : i < 8) (hty6 : t.typ ≤ 6) (hI : t.hold = -1 ∨ (0 ≤ t.hold ∧ t.hold < 8)) (h : On W0 (blk b t.cells 128 :: L) w) : Calls Tryz.prog 58 #[.pointer (some ⟨b, 0, none⟩), .int .i64 (i : Int), .int .i64 kind] w (Ret fun v w' => v = .bool (allowB t i kind) ∧ On W0 (blk b t.cells 128 :: L) w') := by
  refine enter Tryz.func58 rfl Tryz.ntmps58 rfl (W.seq (W.region (WL.val run_assign rfl rfl (WL.nil (W.seq (W.seq (W.region ?_)))))))
  refine WL.val run_move rfl rfl (WL.val (run_nilCheck rfl) rfl rfl (WL.val (run_fieldAddr 8 Tryz.underlying128 rfl Tryz.sizeOf3 rfl rfl) rfl rfl (WL.val (run_load1 Tryz.isAgg3 rfl (h.cellB rfl)) rfl rfl ?_)))
  refine WL.dec (run_lss rfl rfl) rfl rfl (fun c11 => ?_) (fun c11 => ?_)
  ·
   refine WL.val run_move rfl rfl (WL.skip rfl rfl (WL.skip rfl rfl (WL.skip rfl rfl (WL.skip rfl rfl (WL.skip rfl rfl (WL.skip rfl rfl (WL.val (run_pickT rfl) rfl rfl ?_)))))))
   refine WL.nil (W.condT rfl (W.seq (W.region (WL.val run_assign rfl rfl (WL.nil (W.ret (bodyQ.r1 (v := .bool _) Tryz.results58 rfl ?_)))))))
   exact ⟨by rw [allowB_iff.2 (.inl (.inl (by omega)))], h⟩
  refine WL.val run_move rfl rfl (WL.val run_move rfl rfl (WL.val (run_nilCheck rfl) rfl rfl (WL.val (run_fieldAddr 8 Tryz.underlying128 rfl Tryz.sizeOf3 rfl rfl) rfl rfl (WL.val (run_load1 Tryz.isAgg3 rfl (h.cellB rfl)) rfl rfl (WL.val run_move rfl rfl (WL.val (run_eql rfl rfl) rfl rfl (WL.val (run_pickF rfl) rfl rfl ?_)))))))
  refine WL.nil ?_
  refine W.condIf rfl (fun c2 => ?_) (fun c2 => ?_)
  ·
   refine W.seq (W.region (WL.val run_assign rfl rfl (WL.nil (W.ret (bodyQ.r1 (v := .bool _) Tryz.results58 rfl ?_)))))
   exact ⟨by rw [allowB_iff.2 (.inl (.inr (.inl c2)))], h⟩
  refine W.skip (W.seq (W.seq (W.region (WL.val run_move rfl rfl (WL.val (run_nilCheck rfl) rfl rfl (WL.val (run_fieldAddr 9 Tryz.underlying128 rfl Tryz.sizeOf3 rfl rfl) rfl rfl (WL.val (run_load1 Tryz.isAgg3 rfl (h.cellB rfl)) rfl rfl ?_)))))))
  refine WL.dec (run_geq rfl rfl) rfl rfl (fun c24 => ?_) (fun c24 => ?_)
  ·
   refine WL.val run_move rfl rfl (WL.val run_move rfl rfl (WL.eff (eff_call Tryz.call114 (rno_ok h)) rfl rfl ?_))
   rintro _ w ⟨hv, h⟩
   rcases hv with ⟨hb_, _⟩ | ⟨_, hv⟩
   · rw [hostB_iff.2 ⟨by omega, by omega⟩] at hb_; cases hb_
   subst hv
   refine WL.val (run_not rfl) rfl rfl (WL.val (run_pickT rfl) rfl rfl (WL.val run_move rfl rfl (WL.val run_move rfl rfl (WL.val run_move rfl rfl (WL.val (run_nilCheck rfl) rfl rfl (WL.val (run_fieldAddr 0 Tryz.underlying128 rfl Tryz.sizeOf102 rfl rfl) rfl rfl (WL.val (run_indexAddrArr Tryz.underlying102 Tryz.sizeOf23 rfl rfl (by omega) (by omega)) rfl rfl ?_)))))))
   refine WL.val (run_load1 Tryz.isAgg23 rfl (h.cellB (cells_at hi))) rfl rfl ?_
   refine WL.dec (run_neq rfl rfl) rfl rfl (fun c37 => ?_) (fun c37 => ?_)
   ·
    refine WL.val (run_pickT rfl) rfl rfl (WL.nil (W.condT rfl (W.seq (W.region (WL.val run_assign rfl rfl (WL.nil (W.ret ?_)))))))
    refine bodyQ.r1 (v := .bool _) Tryz.results58 rfl ?_
    exact ⟨by rw [allowB_iff.2 (.inl (.inr (.inr ⟨by rw [Tb.regsB_iff]; omega, i, rfl, hi, c37⟩)))], h⟩
   refine WL.val (run_pickT rfl) rfl rfl (WL.nil (W.condF rfl (W.skip (W.seq (W.seq (W.region (WL.val run_move rfl rfl ?_)))))))
   refine WL.nil (W.block (W.seq (W.seq (W.region (WL.val (run_eql rfl rfl) rfl rfl (WL.val run_assign rfl rfl (WL.nil ?_)))))))
   refine W.condIf rfl (fun c14 => ?_) (fun c14 => ?_)
   ·
    refine W.skip ?_
    refine W.condIf rfl (fun c17 => ?_) (fun c17 => ?_)
    ·
     refine W.seq (W.region (WL.val run_move rfl rfl (WL.val (run_nilCheck rfl) rfl rfl (WL.val (run_fieldAddr 9 Tryz.underlying128 rfl Tryz.sizeOf3 rfl rfl) rfl rfl (WL.val (run_load1 Tryz.isAgg3 rfl (h.cellB rfl)) rfl rfl ?_)))))
     refine WL.dec (run_eql rfl rfl) rfl rfl (fun c47 => ?_) (fun c47 => ?_)
     ·
      refine WL.val run_move rfl rfl (WL.skip rfl rfl (WL.skip rfl rfl (WL.skip rfl rfl (WL.skip rfl rfl (WL.skip rfl rfl (WL.val (run_pickT rfl) rfl rfl (WL.val run_assign rfl rfl ?_)))))))
      refine WL.nil (W.ret (bodyQ.r1 (v := .bool _) Tryz.results58 rfl ?_))
      exact ⟨by rw [allowB_iff.2 (.inr (.inl ⟨by omega, by omega⟩))], h⟩
     refine WL.val run_move rfl rfl (WL.val run_move rfl rfl (WL.val (run_nilCheck rfl) rfl rfl (WL.val (run_fieldAddr 9 Tryz.underlying128 rfl Tryz.sizeOf3 rfl rfl) rfl rfl (WL.val (run_load1 Tryz.isAgg3 rfl (h.cellB rfl)) rfl rfl ?_))))
     refine WL.dec (run_eql rfl rfl) rfl rfl (fun c53 => ?_) (fun c53 => ?_)
     ·
      refine WL.val (run_pickF rfl) rfl rfl (WL.val run_assign rfl rfl (WL.nil (W.ret (bodyQ.r1 (v := .bool _) Tryz.results58 rfl ?_))))
      exact ⟨by rw [allowB_iff.2 (.inr (.inl ⟨by omega, by omega⟩))], h⟩
     refine WL.val (run_pickF rfl) rfl rfl (WL.val run_assign rfl rfl (WL.nil (W.ret (bodyQ.r1 (v := .bool _) Tryz.results58 rfl ?_))))
     have hal : ¬ alwP t i := by
       rintro (h1 | h1 | ⟨h1, j, hj, h2, h3⟩)
       · exact c11 (by omega)
       · exact c2 h1
       · have : i = j := Int.ofNat.inj hj; subst this; exact c37 h3
     exact ⟨by rw [show allowB t i kind = false by rw [← Bool.not_eq_true, allowB_iff]; rintro (h1 | h1 | h1); exact hal h1; omega; omega], h⟩
    exact absurd c14 c17
   refine W.region (WL.val (run_eql rfl rfl) rfl rfl (WL.val run_assign rfl rfl (WL.nil ?_)))
   refine W.condIf rfl (fun c17 => ?_) (fun c17 => ?_)
   ·
    refine W.seq (W.region (WL.val run_move rfl rfl (WL.val (run_nilCheck rfl) rfl rfl (WL.val (run_fieldAddr 9 Tryz.underlying128 rfl Tryz.sizeOf3 rfl rfl) rfl rfl (WL.val (run_load1 Tryz.isAgg3 rfl (h.cellB rfl)) rfl rfl ?_)))))
    refine WL.dec (run_eql rfl rfl) rfl rfl (fun c47 => ?_) (fun c47 => ?_)
    ·
     refine WL.val run_move rfl rfl (WL.skip rfl rfl (WL.skip rfl rfl (WL.skip rfl rfl (WL.skip rfl rfl (WL.skip rfl rfl (WL.val (run_pickT rfl) rfl rfl (WL.val run_assign rfl rfl ?_)))))))
     refine WL.nil (W.ret (bodyQ.r1 (v := .bool _) Tryz.results58 rfl ?_))
     exact ⟨by rw [allowB_iff.2 (.inr (.inl ⟨by omega, by omega⟩))], h⟩
    refine WL.val run_move rfl rfl (WL.val run_move rfl rfl (WL.val (run_nilCheck rfl) rfl rfl (WL.val (run_fieldAddr 9 Tryz.underlying128 rfl Tryz.sizeOf3 rfl rfl) rfl rfl (WL.val (run_load1 Tryz.isAgg3 rfl (h.cellB rfl)) rfl rfl ?_))))
    refine WL.dec (run_eql rfl rfl) rfl rfl (fun c53 => ?_) (fun c53 => ?_)
    ·
     refine WL.val (run_pickF rfl) rfl rfl (WL.val run_assign rfl rfl (WL.nil (W.ret (bodyQ.r1 (v := .bool _) Tryz.results58 rfl ?_))))
     exact ⟨by rw [allowB_iff.2 (.inr (.inl ⟨by omega, by omega⟩))], h⟩
    refine WL.val (run_pickF rfl) rfl rfl (WL.val run_assign rfl rfl (WL.nil (W.ret (bodyQ.r1 (v := .bool _) Tryz.results58 rfl ?_))))
    have hal : ¬ alwP t i := by
      rintro (h1 | h1 | ⟨h1, j, hj, h2, h3⟩)
      · exact c11 (by omega)
      · exact c2 h1
      · have : i = j := Int.ofNat.inj hj; subst this; exact c37 h3
    exact ⟨by rw [show allowB t i kind = false by rw [← Bool.not_eq_true, allowB_iff]; rintro (h1 | h1 | h1); exact hal h1; omega; omega], h⟩
   refine W.seq (W.seq (W.region (WL.val (run_eql rfl rfl) rfl rfl (WL.val run_assign rfl rfl (WL.nil ?_)))))
   refine W.condIf rfl (fun c21 => ?_) (fun c21 => ?_)
   ·
    refine W.skip ?_
    refine W.condIf rfl (fun c30 => ?_) (fun c30 => ?_)
    ·
     refine W.seq (W.region (WL.val run_assign rfl rfl (WL.nil (W.ret (bodyQ.r1 (v := .bool _) Tryz.results58 rfl ?_)))))
     have hal : ¬ alwP t i := by
       rintro (h1 | h1 | ⟨h1, j, hj, h2, h3⟩)
       · exact c11 (by omega)
       · exact c2 h1
       · have : i = j := Int.ofNat.inj hj; subst this; exact c37 h3
     exact ⟨by rw [show allowB t i kind = false by rw [← Bool.not_eq_true, allowB_iff]; rintro (h1 | h1 | h1); exact hal h1; omega; omega], h⟩
    exact absurd c21 c30
   refine W.seq (W.region (WL.val (run_eql rfl rfl) rfl rfl (WL.val run_assign rfl rfl (WL.nil ?_))))
   refine W.condIf rfl (fun c24 => ?_) (fun c24 => ?_)
   ·
    refine W.skip ?_
    refine W.condIf rfl (fun c30 => ?_) (fun c30 => ?_)
    ·
     refine W.seq (W.region (WL.val run_assign rfl rfl (WL.nil (W.ret (bodyQ.r1 (v := .bool _) Tryz.results58 rfl ?_)))))
     have hal : ¬ alwP t i := by
       rintro (h1 | h1 | ⟨h1, j, hj, h2, h3⟩)
       · exact c11 (by omega)
       · exact c2 h1
       · have : i = j := Int.ofNat.inj hj; subst this; exact c37 h3
     exact ⟨by rw [show allowB t i kind = false by rw [← Bool.not_eq_true, allowB_iff]; rintro (h1 | h1 | h1); exact hal h1; omega; omega], h⟩
    exact absurd c24 c30
   refine W.seq (W.region (WL.val (run_eql rfl rfl) rfl rfl (WL.val run_assign rfl rfl (WL.nil ?_))))
   refine W.condIf rfl (fun c27 => ?_) (fun c27 => ?_)
   ·
    refine W.skip ?_
    refine W.condIf rfl (fun c30 => ?_) (fun c30 => ?_)
    ·
     refine W.seq (W.region (WL.val run_assign rfl rfl (WL.nil (W.ret (bodyQ.r1 (v := .bool _) Tryz.results58 rfl ?_)))))
     have hal : ¬ alwP t i := by
       rintro (h1 | h1 | ⟨h1, j, hj, h2, h3⟩)
       · exact c11 (by omega)
       · exact c2 h1
       · have : i = j := Int.ofNat.inj hj; subst this; exact c37 h3
     exact ⟨by rw [show allowB t i kind = false by rw [← Bool.not_eq_true, allowB_iff]; rintro (h1 | h1 | h1); exact hal h1; omega; omega], h⟩
    exact absurd c27 c30
   refine W.region (WL.val (run_eql rfl rfl) rfl rfl (WL.val run_assign rfl rfl (WL.nil ?_)))
   refine W.condIf rfl (fun c30 => ?_) (fun c30 => ?_)
   ·
    refine W.seq (W.region (WL.val run_assign rfl rfl (WL.nil (W.ret (bodyQ.r1 (v := .bool _) Tryz.results58 rfl ?_)))))
    have hal : ¬ alwP t i := by
      rintro (h1 | h1 | ⟨h1, j, hj, h2, h3⟩)
      · exact c11 (by omega)
      · exact c2 h1
      · have : i = j := Int.ofNat.inj hj; subst this; exact c37 h3
    exact ⟨by rw [show allowB t i kind = false by rw [← Bool.not_eq_true, allowB_iff]; rintro (h1 | h1 | h1); exact hal h1; omega; omega], h⟩
   refine W.skip (W.seq (W.region (WL.val run_assign rfl rfl (WL.nil (W.ret (bodyQ.r1 (v := .bool _) Tryz.results58 rfl ?_))))))
   exact ⟨by rw [allowB_iff.2 (.inr (.inr (by omega)))], h⟩
  refine WL.val run_move rfl rfl (WL.skip rfl rfl (WL.skip rfl rfl (WL.skip rfl rfl (WL.val (run_pickF rfl) rfl rfl (WL.val run_move rfl rfl (WL.skip rfl rfl (WL.skip rfl rfl ?_)))))))
  refine WL.skip rfl rfl (WL.skip rfl rfl (WL.skip rfl rfl (WL.skip rfl rfl (WL.skip rfl rfl (WL.val (run_pickF rfl) rfl rfl (WL.nil (W.condF rfl ?_)))))))
  refine W.skip (W.seq (W.seq (W.region (WL.val run_move rfl rfl (WL.nil (W.block (W.seq ?_)))))))
  refine W.seq (W.region (WL.val (run_eql rfl rfl) rfl rfl (WL.val run_assign rfl rfl (WL.nil ?_))))
  refine W.condIf rfl (fun c14 => ?_) (fun c14 => ?_)
  ·
   refine W.skip ?_
   refine W.condIf rfl (fun c17 => ?_) (fun c17 => ?_)
   ·
    refine W.seq (W.region (WL.val run_move rfl rfl (WL.val (run_nilCheck rfl) rfl rfl (WL.val (run_fieldAddr 9 Tryz.underlying128 rfl Tryz.sizeOf3 rfl rfl) rfl rfl (WL.val (run_load1 Tryz.isAgg3 rfl (h.cellB rfl)) rfl rfl ?_)))))
    refine WL.dec (run_eql rfl rfl) rfl rfl (fun c47 => ?_) (fun c47 => ?_)
    ·
     refine WL.val run_move rfl rfl (WL.skip rfl rfl (WL.skip rfl rfl (WL.skip rfl rfl (WL.skip rfl rfl (WL.skip rfl rfl (WL.val (run_pickT rfl) rfl rfl (WL.val run_assign rfl rfl ?_)))))))
     refine WL.nil (W.ret (bodyQ.r1 (v := .bool _) Tryz.results58 rfl ?_))
     exact ⟨by rw [allowB_iff.2 (.inr (.inl ⟨by omega, by omega⟩))], h⟩
    refine WL.val run_move rfl rfl (WL.val run_move rfl rfl (WL.val (run_nilCheck rfl) rfl rfl (WL.val (run_fieldAddr 9 Tryz.underlying128 rfl Tryz.sizeOf3 rfl rfl) rfl rfl (WL.val (run_load1 Tryz.isAgg3 rfl (h.cellB rfl)) rfl rfl ?_))))
    refine WL.dec (run_eql rfl rfl) rfl rfl (fun c53 => ?_) (fun c53 => ?_)
    ·
     refine WL.val (run_pickF rfl) rfl rfl (WL.val run_assign rfl rfl (WL.nil (W.ret (bodyQ.r1 (v := .bool _) Tryz.results58 rfl ?_))))
     exact ⟨by rw [allowB_iff.2 (.inr (.inl ⟨by omega, by omega⟩))], h⟩
    refine WL.val (run_pickF rfl) rfl rfl (WL.val run_assign rfl rfl (WL.nil (W.ret (bodyQ.r1 (v := .bool _) Tryz.results58 rfl ?_))))
    have hal : ¬ alwP t i := by
      rintro (h1 | h1 | ⟨h1, j, hj, h2, h3⟩)
      · exact c11 (by omega)
      · exact c2 h1
      · have := Tb.regsB_iff.1 h1; omega
    exact ⟨by rw [show allowB t i kind = false by rw [← Bool.not_eq_true, allowB_iff]; rintro (h1 | h1 | h1); exact hal h1; omega; omega], h⟩
   exact absurd c14 c17
  refine W.region (WL.val (run_eql rfl rfl) rfl rfl (WL.val run_assign rfl rfl (WL.nil ?_)))
  refine W.condIf rfl (fun c17 => ?_) (fun c17 => ?_)
  ·
   refine W.seq (W.region (WL.val run_move rfl rfl (WL.val (run_nilCheck rfl) rfl rfl (WL.val (run_fieldAddr 9 Tryz.underlying128 rfl Tryz.sizeOf3 rfl rfl) rfl rfl (WL.val (run_load1 Tryz.isAgg3 rfl (h.cellB rfl)) rfl rfl ?_)))))
   refine WL.dec (run_eql rfl rfl) rfl rfl (fun c47 => ?_) (fun c47 => ?_)
   ·
    refine WL.val run_move rfl rfl (WL.skip rfl rfl (WL.skip rfl rfl (WL.skip rfl rfl (WL.skip rfl rfl (WL.skip rfl rfl (WL.val (run_pickT rfl) rfl rfl (WL.val run_assign rfl rfl ?_)))))))
    refine WL.nil (W.ret (bodyQ.r1 (v := .bool _) Tryz.results58 rfl ?_))
    exact ⟨by rw [allowB_iff.2 (.inr (.inl ⟨by omega, by omega⟩))], h⟩
   refine WL.val run_move rfl rfl (WL.val run_move rfl rfl (WL.val (run_nilCheck rfl) rfl rfl (WL.val (run_fieldAddr 9 Tryz.underlying128 rfl Tryz.sizeOf3 rfl rfl) rfl rfl (WL.val (run_load1 Tryz.isAgg3 rfl (h.cellB rfl)) rfl rfl ?_))))
   refine WL.dec (run_eql rfl rfl) rfl rfl (fun c53 => ?_) (fun c53 => ?_)
   ·
    refine WL.val (run_pickF rfl) rfl rfl (WL.val run_assign rfl rfl (WL.nil (W.ret (bodyQ.r1 (v := .bool _) Tryz.results58 rfl ?_))))
    exact ⟨by rw [allowB_iff.2 (.inr (.inl ⟨by omega, by omega⟩))], h⟩
   refine WL.val (run_pickF rfl) rfl rfl (WL.val run_assign rfl rfl (WL.nil (W.ret (bodyQ.r1 (v := .bool _) Tryz.results58 rfl ?_))))
   have hal : ¬ alwP t i := by
     rintro (h1 | h1 | ⟨h1, j, hj, h2, h3⟩)
     · exact c11 (by omega)
     · exact c2 h1
     · have := Tb.regsB_iff.1 h1; omega
   exact ⟨by rw [show allowB t i kind = false by rw [← Bool.not_eq_true, allowB_iff]; rintro (h1 | h1 | h1); exact hal h1; omega; omega], h⟩
  refine W.seq (W.seq (W.region (WL.val (run_eql rfl rfl) rfl rfl (WL.val run_assign rfl rfl (WL.nil ?_)))))
  refine W.condIf rfl (fun c21 => ?_) (fun c21 => ?_)
  ·
   refine W.skip ?_
   refine W.condIf rfl (fun c30 => ?_) (fun c30 => ?_)
   ·
    refine W.seq (W.region (WL.val run_assign rfl rfl (WL.nil (W.ret (bodyQ.r1 (v := .bool _) Tryz.results58 rfl ?_)))))
    have hal : ¬ alwP t i := by
      rintro (h1 | h1 | ⟨h1, j, hj, h2, h3⟩)
      · exact c11 (by omega)
      · exact c2 h1
      · have := Tb.regsB_iff.1 h1; omega
    exact ⟨by rw [show allowB t i kind = false by rw [← Bool.not_eq_true, allowB_iff]; rintro (h1 | h1 | h1); exact hal h1; omega; omega], h⟩
   exact absurd c21 c30
  refine W.seq (W.region (WL.val (run_eql rfl rfl) rfl rfl (WL.val run_assign rfl rfl (WL.nil ?_))))
  refine W.condIf rfl (fun c24 => ?_) (fun c24 => ?_)
  ·
   refine W.skip ?_
   refine W.condIf rfl (fun c30 => ?_) (fun c30 => ?_)
   ·
    refine W.seq (W.region (WL.val run_assign rfl rfl (WL.nil (W.ret (bodyQ.r1 (v := .bool _) Tryz.results58 rfl ?_)))))
    have hal : ¬ alwP t i := by
      rintro (h1 | h1 | ⟨h1, j, hj, h2, h3⟩)
      · exact c11 (by omega)
      · exact c2 h1
      · have := Tb.regsB_iff.1 h1; omega
    exact ⟨by rw [show allowB t i kind = false by rw [← Bool.not_eq_true, allowB_iff]; rintro (h1 | h1 | h1); exact hal h1; omega; omega], h⟩
   exact absurd c24 c30
  refine W.seq (W.region (WL.val (run_eql rfl rfl) rfl rfl (WL.val run_assign rfl rfl (WL.nil ?_))))
  refine W.condIf rfl (fun c27 => ?_) (fun c27 => ?_)
  ·
   refine W.skip ?_
   refine W.condIf rfl (fun c30 => ?_) (fun c30 => ?_)
   ·
    refine W.seq (W.region (WL.val run_assign rfl rfl (WL.nil (W.ret (bodyQ.r1 (v := .bool _) Tryz.results58 rfl ?_)))))
    have hal : ¬ alwP t i := by
      rintro (h1 | h1 | ⟨h1, j, hj, h2, h3⟩)
      · exact c11 (by omega)
      · exact c2 h1
      · have := Tb.regsB_iff.1 h1; omega
    exact ⟨by rw [show allowB t i kind = false by rw [← Bool.not_eq_true, allowB_iff]; rintro (h1 | h1 | h1); exact hal h1; omega; omega], h⟩
   exact absurd c27 c30
  refine W.region (WL.val (run_eql rfl rfl) rfl rfl (WL.val run_assign rfl rfl (WL.nil ?_)))
  refine W.condIf rfl (fun c30 => ?_) (fun c30 => ?_)
  ·
   refine W.seq (W.region (WL.val run_assign rfl rfl (WL.nil (W.ret (bodyQ.r1 (v := .bool _) Tryz.results58 rfl ?_)))))
   have hal : ¬ alwP t i := by
     rintro (h1 | h1 | ⟨h1, j, hj, h2, h3⟩)
     · exact c11 (by omega)
     · exact c2 h1
     · have := Tb.regsB_iff.1 h1; omega
   exact ⟨by rw [show allowB t i kind = false by rw [← Bool.not_eq_true, allowB_iff]; rintro (h1 | h1 | h1); exact hal h1; omega; omega], h⟩
  refine W.skip (W.seq (W.region (WL.val run_assign rfl rfl (WL.nil (W.ret (bodyQ.r1 (v := .bool _) Tryz.results58 rfl ?_))))))
  exact ⟨by rw [allowB_iff.2 (.inr (.inr (by omega)))], h⟩

theorem rlist_ok {b : Nat} {t : Tb} (h : On W0 (blk b t.cells 128 :: L) w) : Calls Tryz.prog 69 #[.pointer (some ⟨b, 0, none⟩)] w (Ret fun v w' => ∃ a c, v = .slice a (keysN t.K 8).length c ∧ On W0 (Own 1 (.slice a (keysN t.K 8).length c) (keysN t.K 8).length (kV (keysN t.K 8)) :: blk b t.cells 128 :: L) w') := by
  refine enter Tryz.func69 rfl Tryz.ntmps69 rfl ?_
  have hmx := maxLen_eq
  refine W.seq (W.region (WL.val run_assign rfl rfl (WL.nil (W.seq (W.region (WL.val run_assign rfl rfl (WL.nil ?_)))))))
  refine W.seq (W.seq (W.region (WL.val run_assign rfl rfl (WL.nil (W.block ?_)))))
  refine W.loop (fun (k : Nat) env w => ∃ (j : Env) (a : Option Addr) (c : Nat), env = mkE j [(0, .pointer (some ⟨b, 0, none⟩)), (3, .slice a (keysN t.K k).length c), (4, .int .i64 (k : Int))] ∧ k ≤ 8 ∧ On W0 (Own 1 (.slice a (keysN t.K k).length c) (keysN t.K k).length (kV (keysN t.K k)) :: blk b t.cells 128 :: L) w) (fun k => 8 - k) (0) ?_ ?_
  · exact ⟨_, none, 0, mkE_of ⟨rfl, rfl, rfl, trivial⟩, Nat.zero_le _, h.ownEmpty 1 none⟩
  rintro k env w ⟨j, a, c, rfl, hk, h⟩
  have hlen := keysN_len t.K k
  refine W.seq (W.seq (W.region (WL.val run_move rfl rfl (WL.val (run_lss rfl rfl) rfl rfl (WL.nil ?_)))))
  refine W.condIf rfl (fun c6 => ?_) (fun c6 => ?_)
  ·
   refine W.skip (W.seq (W.block (W.seq (W.region (WL.val run_move rfl rfl (WL.val run_move rfl rfl (WL.val (run_nilCheck rfl) rfl rfl ?_)))))))
   refine WL.val (run_fieldAddr 0 Tryz.underlying128 rfl Tryz.sizeOf102 rfl rfl) rfl rfl (WL.val (run_indexAddrArr Tryz.underlying102 Tryz.sizeOf23 rfl rfl (by omega) (by omega)) rfl rfl (WL.val (run_load1 Tryz.isAgg23 rfl (h.cellB (cells_at (i := k) (by omega)))) rfl rfl (WL.val (run_neq rfl rfl) rfl rfl (WL.nil ?_))))
   refine W.condIf rfl (fun c11 => ?_) (fun c11 => ?_)
   ·
    refine W.region (WL.val run_move rfl rfl (WL.val run_move rfl rfl (WL.val run_move rfl rfl (WL.val (run_nilCheck rfl) rfl rfl (WL.val (run_fieldAddr 0 Tryz.underlying128 rfl Tryz.sizeOf102 rfl rfl) rfl rfl (WL.val (run_indexAddrArr Tryz.underlying102 Tryz.sizeOf23 rfl rfl (by omega) (by omega)) rfl rfl (WL.val (run_load1 Tryz.isAgg23 rfl (h.cellB (cells_at (i := k) (by omega)))) rfl rfl ?_)))))))
    refine WL.eff (eff_mkSlice (zl := [.int .u64 0]) (out := [.int .u64 _]) h Tryz.underlying129 Tryz.sizeOf23 Tryz.zeroValue23 (by decide) (by kernel_rfl) rfl rfl (by simp) (⟨⟨_, _, rfl, rfl, by decide⟩, trivial⟩) rfl rfl (by simp [maxLen])) rfl rfl ?_
    rintro _ w ⟨b23, rfl, h⟩
    refine WL.eff (eff_app (c2 := 1) (bytes := 8) (h.fetch (Own 1 (.slice a (keysN t.K k).length c) (keysN t.K k).length (kV (keysN t.K k)))) rfl rfl (h.cellsO (v := .slice (some ⟨b23, 0, none⟩) 1 1)) Tryz.underlying129 rfl rfl rfl rfl rfl (by omega) (by omega) (by simp [Value.oneCell'])) rfl rfl ?_
    rintro _ w ⟨a24, c24, rfl, h⟩
    have h : On W0 (Own 1 (.slice a24 ((keysN t.K k).length + 1) c24) ((keysN t.K k).length + 1) (kV (keysN t.K k) ++ kV [t.K k]) :: _) w := h
    refine WL.val run_assign rfl rfl (WL.nil (W.region (WL.val run_move rfl rfl (WL.val (run_incN rfl rfl (by omega)) rfl rfl (WL.val run_assign rfl rfl (WL.nil ?_))))))
    have e : (keysN t.K (k + 1)) = (keysN t.K k) ++ [t.K k] := by rw [keysN, if_neg c11]
    have el : (keysN t.K (k + 1)).length = (keysN t.K k).length + 1 := by rw [e, List.length_append]; rfl
    exact ⟨k + 1, ⟨_, a24, c24, mkE_of ⟨rfl, (by rw [el]; rfl), rfl, trivial⟩, by omega, (by rw [el, e, ← kV_app]; exact h.to)⟩, by show 8 - (k + 1) < 8 - k; omega⟩
   refine W.skip (W.region (WL.val run_move rfl rfl (WL.val (run_incN rfl rfl (by omega)) rfl rfl (WL.val run_assign rfl rfl (WL.nil ?_)))))
   have e : (keysN t.K (k + 1)) = (keysN t.K k) := by rw [keysN, if_pos (by omega), List.append_nil]
   exact ⟨k + 1, ⟨_, a, c, mkE_of ⟨rfl, (by rw [e]; rfl), rfl, trivial⟩, by omega, (by rw [e]; exact h.to)⟩, by show 8 - (k + 1) < 8 - k; omega⟩
  refine W.exit (W.seq (W.region (WL.val run_move rfl rfl (WL.val run_assign rfl rfl (WL.nil (W.ret (bodyQ.r1 (v := .slice _ _ _) Tryz.results69 rfl ?_)))))))
  have ob_ : k = 8 := by omega
  obtain rfl := ob_
  exact ⟨a, c, rfl, h⟩

theorem rkey_ok {b : Nat} {t : Tb} {hh : Int} (h : On W0 (blk b t.cells 128 :: L) w) : Calls Tryz.prog 71 #[.pointer (some ⟨b, 0, none⟩), .int .i64 hh] w (Ret fun v w' => v = .int .u64 (if hostB hh = true then t.K hh.toNat else 0) ∧ On W0 (blk b t.cells 128 :: L) w') := by
  refine enter Tryz.func71 rfl Tryz.ntmps71 rfl (W.seq (W.region (WL.val run_assign rfl rfl (WL.nil (W.seq (W.seq (W.region ?_)))))))
  refine WL.val run_move rfl rfl (WL.eff (eff_call Tryz.call114 (rno_ok h)) rfl rfl ?_)
  rintro _ w ⟨hv, h⟩
  rcases hv with ⟨hb, hv⟩ | ⟨hb, hv⟩ <;> subst hv
  ·
   refine WL.nil (W.condT rfl (W.seq (W.region (WL.val run_assign rfl rfl (WL.nil (W.ret (bodyQ.r1 (v := .int .u64 _) Tryz.results71 rfl ?_)))))))
   exact ⟨by rw [hb]; rfl, h⟩
  refine WL.nil (W.condF rfl (W.skip (W.seq ?_)))
  have hb2 := hostB_iff.1 hb
  obtain ⟨hi0, hi8⟩ := hb2
  have hn := Int.eq_ofNat_of_zero_le hi0
  obtain ⟨i, hn⟩ := hn
  subst hn
  have hi : i < 8 := by omega
  refine W.region (WL.val run_move rfl rfl (WL.val run_move rfl rfl (WL.val (run_nilCheck rfl) rfl rfl (WL.val (run_fieldAddr 0 Tryz.underlying128 rfl Tryz.sizeOf102 rfl rfl) rfl rfl (WL.val (run_indexAddrArr Tryz.underlying102 Tryz.sizeOf23 rfl rfl (by omega) (by omega)) rfl rfl (WL.val (run_load1 Tryz.isAgg23 rfl (h.cellB (cells_at hi))) rfl rfl (WL.val run_assign rfl rfl ?_)))))))
  refine WL.nil (W.ret (bodyQ.r1 (v := .int .u64 _) Tryz.results71 rfl ?_))
  exact ⟨by rw [if_pos hb]; rfl, h⟩

end Go.Proofs.YtdpakoefdpmebaaGreat
