/-
  The contracts of reservations. Lines of walks printed by a program of the prover's.
-/
import Derived.Test.YtdpakoefdpmebaaGreatSpace2
import Derived.Test.YtdpakoefdpmebaaGreatResvModel
namespace Go.Proofs.YtdpakoefdpmebaaGreat
open Go Go.Sl Go.Sl.RsM
set_option linter.unusedVariables false
set_option linter.unusedSimpArgs false
set_option maxHeartbeats 1000000
set_option maxRecDepth 8000
variable {W0 w : World} {L F : List HProp}

theorem host_ok {x : Int} (h : On W0 L w) : Calls Tryz.prog 89 #[.int .i64 x] w (Ret fun v w' => v = .bool (hostB x) ∧ On W0 L w') := by
  refine enter Tryz.func89 rfl Tryz.ntmps89 rfl (W.seq (W.region (WL.val run_assign rfl rfl (WL.nil (W.seq (W.region (WL.val run_move rfl rfl ?_)))))))
  refine WL.dec (run_geq rfl rfl) rfl rfl (fun c4 => ?_) (fun c4 => ?_)
  ·
   refine WL.val run_move rfl rfl (WL.val run_move rfl rfl ?_)
   refine WL.dec (run_lss rfl rfl) rfl rfl (fun c7 => ?_) (fun c7 => ?_)
   ·
    refine WL.val (run_pickT rfl) rfl rfl (WL.val run_assign rfl rfl (WL.nil (W.ret (bodyQ.r1 (v := .bool _) Tryz.results89 rfl ?_))))
    exact ⟨by rw [hostB_iff.2 ⟨by omega, by omega⟩], h⟩
   refine WL.val (run_pickT rfl) rfl rfl (WL.val run_assign rfl rfl (WL.nil (W.ret (bodyQ.r1 (v := .bool _) Tryz.results89 rfl ?_))))
   exact ⟨by rw [hostB_no.2 (by omega)], h⟩
  refine WL.val run_move rfl rfl (WL.skip rfl rfl (WL.skip rfl rfl (WL.val (run_pickF rfl) rfl rfl (WL.val run_assign rfl rfl (WL.nil (W.ret (bodyQ.r1 (v := .bool _) Tryz.results89 rfl ?_)))))))
  exact ⟨by rw [hostB_no.2 (by omega)], h⟩

theorem typed_ok {x : Int} (h : On W0 L w) : Calls Tryz.prog 84 #[.int .i64 x] w (Ret fun v w' => v = .bool (typedB x) ∧ On W0 L w') := by
  refine enter Tryz.func84 rfl Tryz.ntmps84 rfl (W.seq (W.region (WL.val run_assign rfl rfl (WL.nil (W.seq (W.region (WL.val run_move rfl rfl ?_)))))))
  refine WL.dec (run_eql rfl rfl) rfl rfl (fun c4 => ?_) (fun c4 => ?_)
  ·
   refine WL.val run_move rfl rfl (WL.skip rfl rfl (WL.skip rfl rfl (WL.val (run_pickT rfl) rfl rfl (WL.val run_move rfl rfl (WL.skip rfl rfl (WL.skip rfl rfl (WL.val (run_pickT rfl) rfl rfl ?_)))))))
   refine WL.val run_move rfl rfl (WL.skip rfl rfl (WL.skip rfl rfl (WL.val (run_pickT rfl) rfl rfl (WL.val run_assign rfl rfl (WL.nil (W.ret (bodyQ.r1 (v := .bool _) Tryz.results84 rfl ?_)))))))
   exact ⟨by rw [typedB_iff.2 (by omega)], h⟩
  refine WL.val run_move rfl rfl (WL.val run_move rfl rfl ?_)
  refine WL.dec (run_eql rfl rfl) rfl rfl (fun c7 => ?_) (fun c7 => ?_)
  ·
   refine WL.val (run_pickF rfl) rfl rfl (WL.val run_move rfl rfl (WL.skip rfl rfl (WL.skip rfl rfl (WL.val (run_pickT rfl) rfl rfl (WL.val run_move rfl rfl (WL.skip rfl rfl (WL.skip rfl rfl ?_)))))))
   refine WL.val (run_pickT rfl) rfl rfl (WL.val run_assign rfl rfl (WL.nil (W.ret (bodyQ.r1 (v := .bool _) Tryz.results84 rfl ?_))))
   exact ⟨by rw [typedB_iff.2 (by omega)], h⟩
  refine WL.val (run_pickF rfl) rfl rfl (WL.val run_move rfl rfl (WL.val run_move rfl rfl ?_))
  refine WL.dec (run_eql rfl rfl) rfl rfl (fun c11 => ?_) (fun c11 => ?_)
  ·
   refine WL.val (run_pickF rfl) rfl rfl (WL.val run_move rfl rfl (WL.skip rfl rfl (WL.skip rfl rfl (WL.val (run_pickT rfl) rfl rfl (WL.val run_assign rfl rfl (WL.nil (W.ret ?_)))))))
   refine bodyQ.r1 (v := .bool _) Tryz.results84 rfl ?_
   exact ⟨by rw [typedB_iff.2 (by omega)], h⟩
  refine WL.val (run_pickF rfl) rfl rfl (WL.val run_move rfl rfl (WL.val run_move rfl rfl ?_))
  refine WL.dec (run_eql rfl rfl) rfl rfl (fun c15 => ?_) (fun c15 => ?_)
  ·
   refine WL.val (run_pickF rfl) rfl rfl (WL.val run_assign rfl rfl (WL.nil (W.ret (bodyQ.r1 (v := .bool _) Tryz.results84 rfl ?_))))
   exact ⟨by rw [typedB_iff.2 (by omega)], h⟩
  refine WL.val (run_pickF rfl) rfl rfl (WL.val run_assign rfl rfl (WL.nil (W.ret (bodyQ.r1 (v := .bool _) Tryz.results84 rfl ?_))))
  exact ⟨by rw [typedB_no.2 (by omega)], h⟩

theorem wrong_ok {x y : Int} (h : On W0 L w) : Calls Tryz.prog 36 #[.int .i64 x, .int .i64 y] w (Ret fun v w' => v = rep 2 x y ∧ On W0 L w') := by
  refine enter Tryz.func36 rfl Tryz.ntmps36 rfl (W.seq (W.region (WL.eff (eff_alloc h Tryz.zeroValue36 rfl) rfl rfl ?_)))
  rintro _ w ⟨b4, rfl, h⟩
  refine WL.nil (W.seq (W.region (WL.val run_move rfl rfl (WL.val run_move rfl rfl (WL.val (run_buildS (pl := [(0, 1), (1, 1), (2, 1), (3, 1), (4, 1)]) (out := [.int .i64 _, .int .i64 _, .int .i64 _, .slice _ _ _, .int .i64 _]) Tryz.underlying36 Tryz.zeroValue36 (fun w => by kernel_rfl) rfl (⟨⟨_, _, rfl, rfl, by decide⟩, ⟨⟨_, _, rfl, rfl, by decide⟩, ⟨⟨_, _, rfl, rfl, by decide⟩, trivial⟩⟩⟩) rfl) rfl rfl (WL.eff (eff_storeW (vs := [.int .i64 _, .int .i64 _, .int .i64 _, .slice _ _ _, .int .i64 _]) h Tryz.sizeOf36 rfl rfl rfl rfl rfl) rfl rfl ?_))))))
  rintro _ w h
  refine WL.nil (W.ret (bodyQ.rcB (vs := [.int .i64 _, .int .i64 _, .int .i64 _, .slice _ _ _, .int .i64 _]) h Tryz.results36 Tryz.isAgg36 Tryz.sizeOf36 rfl rfl rfl ?_))
  exact ⟨rfl, h.tail⟩

theorem conflict_ok (h : On W0 L w) : Calls Tryz.prog 139 #[] w (Ret fun v w' => v = rep 24 0 0 ∧ On W0 L w') := by
  refine enter Tryz.func139 rfl Tryz.ntmps139 rfl (W.seq (W.region (WL.eff (eff_alloc h Tryz.zeroValue36 rfl) rfl rfl ?_)))
  rintro _ w ⟨b0, rfl, h⟩
  refine WL.nil (W.seq (W.region (WL.val (run_buildS (pl := [(0, 1), (1, 1), (2, 1), (3, 1), (4, 1)]) (out := [.int .i64 _, .int .i64 _, .int .i64 _, .slice _ _ _, .int .i64 _]) Tryz.underlying36 Tryz.zeroValue36 (fun w => by kernel_rfl) rfl (⟨⟨_, _, rfl, rfl, by decide⟩, trivial⟩) rfl) rfl rfl (WL.eff (eff_storeW (vs := [.int .i64 _, .int .i64 _, .int .i64 _, .slice _ _ _, .int .i64 _]) h Tryz.sizeOf36 rfl rfl rfl rfl rfl) rfl rfl ?_))))
  rintro _ w h
  refine WL.nil (W.ret (bodyQ.rcB (vs := [.int .i64 _, .int .i64 _, .int .i64 _, .slice _ _ _, .int .i64 _]) h Tryz.results139 Tryz.isAgg36 Tryz.sizeOf36 rfl rfl rfl ?_))
  exact ⟨rfl, h.tail⟩

theorem good_ok (h : On W0 L w) : Calls Tryz.prog 141 #[] w (Ret fun v w' => v = rep 0 0 0 ∧ On W0 L w') := by
  refine enter Tryz.func141 rfl Tryz.ntmps141 rfl (W.seq (W.region (WL.eff (eff_alloc h Tryz.zeroValue36 rfl) rfl rfl ?_)))
  rintro _ w ⟨b0, rfl, h⟩
  refine WL.nil (W.seq (W.region (WL.val (run_buildS (pl := [(0, 1), (1, 1), (2, 1), (3, 1), (4, 1)]) (out := [.int .i64 _, .int .i64 _, .int .i64 _, .slice _ _ _, .int .i64 _]) Tryz.underlying36 Tryz.zeroValue36 (fun w => by kernel_rfl) rfl (⟨⟨_, _, rfl, rfl, by decide⟩, trivial⟩) rfl) rfl rfl (WL.eff (eff_storeW (vs := [.int .i64 _, .int .i64 _, .int .i64 _, .slice _ _ _, .int .i64 _]) h Tryz.sizeOf36 rfl rfl rfl rfl rfl) rfl rfl ?_))))
  rintro _ w h
  refine WL.nil (W.ret (bodyQ.rcB (vs := [.int .i64 _, .int .i64 _, .int .i64 _, .slice _ _ _, .int .i64 _]) h Tryz.results141 Tryz.isAgg36 Tryz.sizeOf36 rfl rfl rfl ?_))
  exact ⟨rfl, h.tail⟩

theorem field_ok (h : On W0 L w) : Calls Tryz.prog 138 #[] w (Ret fun v w' => v = rep 2 5 9216 ∧ On W0 L w') := by
  refine enter Tryz.func138 rfl Tryz.ntmps138 rfl (W.seq (W.region (WL.eff (eff_alloc h Tryz.zeroValue36 rfl) rfl rfl ?_)))
  rintro _ w ⟨b0, rfl, h⟩
  refine WL.nil (W.seq (W.region (WL.eff (eff_call Tryz.call36 (wrong_ok h)) rfl rfl ?_)))
  rintro _ w ⟨rfl, h⟩
  refine WL.eff (eff_storeW (vs := [.int .i64 _, .int .i64 _, .int .i64 _, .slice _ _ _, .int .i64 _]) h Tryz.sizeOf36 rfl rfl rfl rfl rfl) rfl rfl ?_
  rintro _ w h
  refine WL.nil (W.ret (bodyQ.rcB (vs := [.int .i64 _, .int .i64 _, .int .i64 _, .slice _ _ _, .int .i64 _]) h Tryz.results138 Tryz.isAgg36 Tryz.sizeOf36 rfl rfl rfl ?_))
  exact ⟨rfl, h.tail⟩

theorem every_ok {k : Int} (h : On W0 L w) : Calls Tryz.prog 144 #[.int .u64 k] w (Ret fun v w' => v = .bool true ∧ On W0 L w') := by
  refine enter Tryz.func144 rfl Tryz.ntmps144 rfl (W.seq (W.region (WL.val run_assign rfl rfl (WL.nil (W.seq (W.region (WL.val run_assign rfl rfl ?_)))))))
  refine WL.nil (W.ret (bodyQ.r1 (v := .bool _) Tryz.results144 rfl ?_))
  exact ⟨rfl, h⟩

theorem regs_ok {b : Nat} {t : Tb} (h : On W0 (blk b t.cells 152 :: L) w) : Calls Tryz.prog 88 #[.pointer (some ⟨b, 0, none⟩)] w (Ret fun v w' => v = .bool t.regsB ∧ On W0 (blk b t.cells 152 :: L) w') := by
  refine enter Tryz.func88 rfl Tryz.ntmps88 rfl (W.seq (W.region (WL.val run_assign rfl rfl (WL.nil (W.seq (W.region (WL.val run_move rfl rfl ?_)))))))
  refine WL.val (run_nilCheck rfl) rfl rfl (WL.val (run_fieldAddr 9 Tryz.underlying152 rfl Tryz.sizeOf3 rfl rfl) rfl rfl (WL.val (run_load1 Tryz.isAgg3 rfl (h.cellB rfl)) rfl rfl ?_))
  refine WL.dec (run_eql rfl rfl) rfl rfl (fun c7 => ?_) (fun c7 => ?_)
  ·
   refine WL.val run_move rfl rfl (WL.skip rfl rfl (WL.skip rfl rfl (WL.skip rfl rfl (WL.skip rfl rfl (WL.skip rfl rfl (WL.val (run_pickT rfl) rfl rfl (WL.val run_assign rfl rfl ?_)))))))
   refine WL.nil (W.ret (bodyQ.r1 (v := .bool _) Tryz.results88 rfl ?_))
   exact ⟨by rw [Tb.regsB_iff.2 (by omega)], h⟩
  refine WL.val run_move rfl rfl (WL.val run_move rfl rfl (WL.val (run_nilCheck rfl) rfl rfl (WL.val (run_fieldAddr 9 Tryz.underlying152 rfl Tryz.sizeOf3 rfl rfl) rfl rfl (WL.val (run_load1 Tryz.isAgg3 rfl (h.cellB rfl)) rfl rfl ?_))))
  refine WL.dec (run_eql rfl rfl) rfl rfl (fun c13 => ?_) (fun c13 => ?_)
  ·
   refine WL.val (run_pickF rfl) rfl rfl (WL.val run_assign rfl rfl (WL.nil (W.ret (bodyQ.r1 (v := .bool _) Tryz.results88 rfl ?_))))
   exact ⟨by rw [Tb.regsB_iff.2 (by omega)], h⟩
  refine WL.val (run_pickF rfl) rfl rfl (WL.val run_assign rfl rfl (WL.nil (W.ret (bodyQ.r1 (v := .bool _) Tryz.results88 rfl ?_))))
  exact ⟨by rw [show t.regsB = false by rw [← Bool.not_eq_true, Tb.regsB_iff]; omega], h⟩

theorem clip_notes {a : Option Addr} {n c : Nat} {xs : List Value} (h : On W0 (Own 2 (.slice a n c) n xs :: L) w) :
    Calls Tryz.prog 157 #[.slice a n c] w (Ret fun v w' => v = .slice a n n ∧ On W0 (Own 2 (.slice a n n) n xs :: L) w') := by
  refine enter Tryz.func157 rfl Tryz.ntmps157 rfl ?_
  have ob_ := Own.form h
  obtain ⟨a', c', hv, hnc, hcm, hnone⟩ := ob_
  simp only [Value.slice.injEq] at hv
  obtain ⟨rfl, _, rfl⟩ := hv
  refine W.seq (W.region (WL.val run_assign rfl rfl (WL.nil (W.seq (W.region (WL.val run_move rfl rfl (WL.val run_move rfl rfl ?_)))))))
  refine WL.val (run_lenSlice Tryz.underlying157 rfl) rfl rfl (WL.val run_move rfl rfl (WL.val (run_lenSlice Tryz.underlying157 rfl) rfl rfl (WL.val (run_cutHM Tryz.underlying157 Tryz.sizeOf207 rfl rfl rfl  (by omega) (by omega)) rfl rfl (WL.val run_assign rfl rfl (WL.nil (W.ret (bodyQ.r1 (v := .slice _ _ _) Tryz.results157 rfl ?_)))))))
  exact ⟨rfl, Own.clip h⟩

theorem clip_keys {a : Option Addr} {n c : Nat} {xs : List Value} (h : On W0 (Own 1 (.slice a n c) n xs :: L) w) :
    Calls Tryz.prog 146 #[.slice a n c] w (Ret fun v w' => v = .slice a n n ∧ On W0 (Own 1 (.slice a n n) n xs :: L) w') := by
  refine enter Tryz.func146 rfl Tryz.ntmps146 rfl ?_
  have ob_ := Own.form h
  obtain ⟨a', c', hv, hnc, hcm, hnone⟩ := ob_
  simp only [Value.slice.injEq] at hv
  obtain ⟨rfl, _, rfl⟩ := hv
  refine W.seq (W.region (WL.val run_assign rfl rfl (WL.nil (W.seq (W.region (WL.val run_move rfl rfl (WL.val run_move rfl rfl ?_)))))))
  refine WL.val (run_lenSlice Tryz.underlying129 rfl) rfl rfl (WL.val run_move rfl rfl (WL.val (run_lenSlice Tryz.underlying129 rfl) rfl rfl (WL.val (run_cutHM Tryz.underlying129 Tryz.sizeOf23 rfl rfl rfl  (by omega) (by omega)) rfl rfl (WL.val run_assign rfl rfl (WL.nil (W.ret (bodyQ.r1 (v := .slice _ _ _) Tryz.results146 rfl ?_)))))))
  exact ⟨rfl, Own.clip h⟩

theorem others_ok {b : Nat} {t : Tb} {hh code : Int} {f : FuncId} {caps : Array Value} {p : Int → Bool} (h : On W0 (blk b t.cells 152 :: L) w) (hf : ∀ args w, (callFunc f args).run Tryz.prog w = .ok (.enter f args) w)
    (hg : ∀ (k : Int) (A : HProp) (w : World), On W0 (A :: blk b t.cells 152 :: L) w → Calls Tryz.prog f (#[.int .u64 k] ++ caps) w (Ret fun v w' => v = .bool (p k) ∧ On W0 (A :: blk b t.cells 152 :: L) w')) :
    Calls Tryz.prog 143 #[.pointer (some ⟨b, 0, none⟩), .int .i64 hh, .int .i64 code, .func (.func f) #[] caps] w (Ret fun v w' => ∃ a, v = .slice a (hostsN t.K hh p 8).length (hostsN t.K hh p 8).length ∧ On W0 (Own 2 (.slice a (hostsN t.K hh p 8).length (hostsN t.K hh p 8).length) (hostsN t.K hh p 8).length (notesV code (hostsN t.K hh p 8)) :: blk b t.cells 152 :: L) w') := by
  refine enter Tryz.func143 rfl Tryz.ntmps143 rfl ?_
  have hmx := maxLen_eq
  refine W.seq (W.region (WL.val run_assign rfl rfl (WL.nil (W.scope (W.seq (W.region (WL.val run_assign rfl rfl ?_)))))))
  refine WL.nil (W.seq (W.label (W.seq (W.seq (W.region (WL.val run_move rfl rfl (WL.val (run_nilCheck rfl) rfl rfl ?_)))))))
  refine WL.val (run_fieldAddr 0 Tryz.underlying152 rfl Tryz.sizeOf102 rfl rfl) rfl rfl (WL.val (run_loadB (vs := [.int .u64 _, .int .u64 _, .int .u64 _, .int .u64 _, .int .u64 _, .int .u64 _, .int .u64 _, .int .u64 _]) h Tryz.isAgg102 Tryz.sizeOf102 rfl rfl rfl) rfl rfl (WL.val run_move rfl rfl (WL.nil (W.block ?_))))
  refine W.loop (fun (i : Nat) env w => ∃ j a c, env = mkE j [(0, .pointer (some ⟨b, 0, none⟩)), (1, .int .i64 hh), (2, .int .i64 code), (3, .func (.func f) #[] caps), (9, .slice a (hostsN t.K hh p i).length c), (15, .agg (keysV t.K).toArray), (16, .int .i64 (i : Int))] ∧ i ≤ 8 ∧ On W0 (Own 2 (.slice a (hostsN t.K hh p i).length c) (hostsN t.K hh p i).length (notesV code (hostsN t.K hh p i)) :: blk b t.cells 152 :: L) w) (fun i => 8 - i) (0) ?_ ?_
  · exact ⟨_, none, 0, mkE_of ⟨rfl, rfl, rfl, rfl, rfl, rfl, rfl, trivial⟩, Nat.zero_le _, h.ownEmpty 2 none⟩
  rintro i env w ⟨j, a, c, rfl, hi, h⟩
  have hlen := hostsN_len t.K hh p i
  refine W.seq (W.region (WL.val (run_lss rfl rfl) rfl rfl (WL.nil (W.seq ?_))))
  refine W.condIf rfl (fun c8 => ?_) (fun c8 => ?_)
  ·
   refine W.skip (W.seq (W.block (W.seq (W.region (WL.val run_move rfl rfl (WL.val (run_indexArr Tryz.underlying102 Tryz.sizeOf23 Tryz.isAgg23 rfl rfl (by omega) (by omega) (keysV_key (i := i) (by omega))) rfl rfl (WL.val run_assign rfl rfl ?_)))))))
   refine WL.val run_assign rfl rfl (WL.nil (W.seq (W.seq (W.region (WL.val run_move rfl rfl (WL.val run_move rfl rfl ?_))))))
   refine WL.dec (run_eql rfl rfl) rfl rfl (fun c22 => ?_) (fun c22 => ?_)
   ·
    refine WL.val run_move rfl rfl (WL.skip rfl rfl (WL.skip rfl rfl (WL.val (run_pickT rfl) rfl rfl (WL.val run_move rfl rfl (WL.skip rfl rfl (WL.skip rfl rfl (WL.skip rfl rfl ?_)))))))
    refine WL.skip rfl rfl (WL.val (run_pickT rfl) rfl rfl (WL.nil (W.condT rfl (W.exit (W.region (WL.val (run_incN rfl rfl (by omega)) rfl rfl (WL.val run_move rfl rfl ?_)))))))
    refine WL.nil ?_
    have e : hostsN t.K hh p (i + 1) = hostsN t.K hh p i := by rw [hostsN_succ, if_pos (.inl (by omega)), List.append_nil]
    exact ⟨i + 1, ⟨_, a, c, mkE_of ⟨rfl, rfl, rfl, rfl, (by rw [e]; rfl), rfl, rfl, trivial⟩, by omega, (by rw [e]; exact h.to)⟩, by show 8 - (i + 1) < 8 - i; omega⟩
   refine WL.val run_move rfl rfl (WL.val run_move rfl rfl ?_)
   refine WL.dec (run_eql rfl rfl) rfl rfl (fun c25 => ?_) (fun c25 => ?_)
   ·
    refine WL.val (run_pickF rfl) rfl rfl (WL.val run_move rfl rfl (WL.skip rfl rfl (WL.skip rfl rfl (WL.skip rfl rfl (WL.skip rfl rfl (WL.val (run_pickT rfl) rfl rfl (WL.nil ?_)))))))
    refine W.condT rfl (W.exit (W.region (WL.val (run_incN rfl rfl (by omega)) rfl rfl (WL.val run_move rfl rfl (WL.nil ?_)))))
    have e : hostsN t.K hh p (i + 1) = hostsN t.K hh p i := by rw [hostsN_succ, if_pos (.inr (.inl (by omega))), List.append_nil]
    exact ⟨i + 1, ⟨_, a, c, mkE_of ⟨rfl, rfl, rfl, rfl, (by rw [e]; rfl), rfl, rfl, trivial⟩, by omega, (by rw [e]; exact h.to)⟩, by show 8 - (i + 1) < 8 - i; omega⟩
   refine WL.val (run_pickF rfl) rfl rfl (WL.val run_move rfl rfl (WL.val run_move rfl rfl (WL.val run_move rfl rfl (WL.eff (eff_callV (xs := [_]) rfl hf (hg _ _ _ h)) rfl rfl ?_))))
   rintro _ w ⟨rfl, h⟩
   refine WL.val (run_not rfl) rfl rfl (WL.val (run_pickF rfl) rfl rfl (WL.nil ?_))
   refine W.condB rfl (fun c14 => ?_) (fun c14 => ?_)
   ·
    refine W.exit (W.region (WL.val (run_incN rfl rfl (by omega)) rfl rfl (WL.val run_move rfl rfl (WL.nil ?_))))
    have e : hostsN t.K hh p (i + 1) = hostsN t.K hh p i := by rw [hostsN_succ, if_pos (by simp at c14; exact .inr (.inr c14)), List.append_nil]
    exact ⟨i + 1, ⟨_, a, c, mkE_of ⟨rfl, rfl, rfl, rfl, (by rw [e]; rfl), rfl, rfl, trivial⟩, by omega, (by rw [e]; exact h.to)⟩, by show 8 - (i + 1) < 8 - i; omega⟩
   refine W.skip (W.region (WL.val run_move rfl rfl (WL.val run_move rfl rfl (WL.val run_move rfl rfl (WL.val (run_buildS (pl := [(0, 1), (1, 1)]) (out := [.int .i64 _, .int .i64 _]) Tryz.underlying207 Tryz.zeroValue207 (fun w => by kernel_rfl) rfl (⟨⟨_, _, rfl, rfl, by decide⟩, ⟨⟨_, _, rfl, rfl, by decide⟩, trivial⟩⟩) rfl) rfl rfl (WL.eff (eff_mkSlice (zl := [.int .i64 0, .int .i64 0]) (out := [.int .i64 _, .int .i64 _]) h Tryz.underlying157 Tryz.sizeOf207 Tryz.zeroValue207 (by decide) (by kernel_rfl) rfl rfl (by simp) (⟨⟨_, _, rfl, rfl, by decide⟩, trivial⟩) rfl rfl (by simp [maxLen])) rfl rfl ?_))))))
   rintro _ w ⟨b37, rfl, h⟩
   refine WL.eff (eff_app (c2 := 1) (bytes := 16) h rfl rfl (h.cellsO (v := .slice (some ⟨b37, 0, none⟩) 1 1)) Tryz.underlying157 rfl rfl rfl rfl rfl (by omega) (by omega) (by simp [Value.oneCell'])) rfl rfl ?_
   rintro _ w ⟨a38, c38, rfl, h⟩
   have h : On W0 (Own 2 (.slice a38 ((hostsN t.K hh p i).length + 1) c38) ((hostsN t.K hh p i).length + 1) (notesV code (hostsN t.K hh p i) ++ noteV code i) :: _) w := h
   refine WL.val run_assign rfl rfl (WL.nil (W.region (WL.val (run_incN rfl rfl (by omega)) rfl rfl (WL.val run_move rfl rfl (WL.nil ?_)))))
   have e : hostsN t.K hh p (i + 1) = hostsN t.K hh p i ++ [i] := by rw [hostsN_succ, if_neg (by simp at c14; rintro (h1 | h1 | h1); exact c22 h1; exact c25 h1; rw [c14] at h1; cases h1)]
   have el : (hostsN t.K hh p (i + 1)).length = (hostsN t.K hh p i).length + 1 := by rw [e, List.length_append]; rfl
   exact ⟨i + 1, ⟨_, a38, c38, mkE_of ⟨rfl, rfl, rfl, rfl, (by rw [el]; rfl), rfl, rfl, trivial⟩, by omega, (by rw [el, e, ← notesV_snoc]; exact h.to)⟩, by show 8 - (i + 1) < 8 - i; omega⟩
  refine W.exit (W.seq (W.region (WL.val run_move rfl rfl (WL.eff (eff_call Tryz.call157 (clip_notes h)) rfl rfl ?_))))
  rintro _ w ⟨rfl, h⟩
  refine WL.val run_assign rfl rfl (WL.nil (W.ret (bodyQ.r1 (v := .slice _ _ _) Tryz.results143 rfl ?_)))
  have ob_ : i = 8 := by omega
  obtain rfl := ob_
  exact ⟨a, rfl, h⟩

theorem drop_ok {b : Nat} {t : Tb} {hh : Int} (h : On W0 (blk b t.cells 152 :: L) w) : Calls Tryz.prog 140 #[.pointer (some ⟨b, 0, none⟩), .int .i64 hh] w (Ret fun v w' => ∃ a, v = .slice a (t.told hh).length (t.told hh).length ∧ On W0 (Own 2 (.slice a (t.told hh).length (t.told hh).length) (t.told hh).length (notesV 10756 (t.told hh)) :: blk b t.freed.cells 152 :: L) w') := by
  refine enter Tryz.func140 rfl Tryz.ntmps140 rfl (W.seq (W.region (WL.val run_assign rfl rfl (WL.nil (W.seq (W.region (WL.val run_assign rfl rfl ?_)))))))
  refine WL.nil (W.seq (W.seq (W.region (WL.val run_move rfl rfl (WL.eff (eff_call Tryz.call88 (regs_ok h)) rfl rfl ?_)))))
  rintro _ w ⟨rfl, h⟩
  refine WL.nil ?_
  refine W.condB rfl (fun c3 => ?_) (fun c3 => ?_)
  ·
   refine W.region (WL.val run_move rfl rfl (WL.val run_move rfl rfl (WL.eff (eff_call Tryz.call143 (others_ok (hh := hh) (code := 10756) (f := 144) (caps := #[]) (p := (fun _ => true)) h Tryz.call144 (fun k A w h => every_ok h))) rfl rfl ?_)))
   rintro _ w ⟨a, rfl, h⟩
   have e : t.told hh = hostsN t.K hh (fun _ => true) 8 := by unfold Tb.told; rw [if_pos c3]
   rw [← e] at h
   refine WL.val run_assign rfl rfl (WL.nil (W.seq (W.region (WL.val run_move rfl rfl (WL.val run_move rfl rfl (WL.val (run_nilCheck rfl) rfl rfl (WL.val (run_fieldAddr 8 Tryz.underlying152 rfl Tryz.sizeOf3 rfl rfl) rfl rfl ?_)))))))
   refine WL.eff (eff_store (v := .int .i64 _) h Tryz.sizeOf3 rfl rfl rfl rfl rfl) rfl rfl ?_
   rintro _ w h
   try simp only [Nat.zero_add, Nat.add_zero, List.set_cons_zero, List.set_cons_succ] at h
   refine WL.val (run_nilCheck rfl) rfl rfl (WL.val (run_fieldAddr 9 Tryz.underlying152 rfl Tryz.sizeOf3 rfl rfl) rfl rfl (WL.eff (eff_store (v := .int .i64 _) h Tryz.sizeOf3 rfl rfl rfl rfl rfl) rfl rfl ?_))
   rintro _ w h
   try simp only [Nat.zero_add, Nat.add_zero, List.set_cons_zero, List.set_cons_succ] at h
   refine WL.nil (W.seq (W.region (WL.val run_move rfl rfl (WL.val run_assign rfl rfl (WL.nil (W.ret (bodyQ.r1 (v := .slice _ _ _) Tryz.results140 rfl ?_)))))))
   exact ⟨a, by rw [e], h⟩
  have e : t.told hh = [] := by unfold Tb.told; rw [c3]; rfl
  have h := h.ownEmpty 2 none
  refine W.skip (W.seq (W.region (WL.val run_move rfl rfl (WL.val run_move rfl rfl (WL.val (run_nilCheck rfl) rfl rfl (WL.val (run_fieldAddr 8 Tryz.underlying152 rfl Tryz.sizeOf3 rfl rfl) rfl rfl (WL.eff (eff_store (v := .int .i64 _) h Tryz.sizeOf3 rfl rfl rfl rfl rfl) rfl rfl ?_)))))))
  rintro _ w h
  try simp only [Nat.zero_add, Nat.add_zero, List.set_cons_zero, List.set_cons_succ] at h
  refine WL.val (run_nilCheck rfl) rfl rfl (WL.val (run_fieldAddr 9 Tryz.underlying152 rfl Tryz.sizeOf3 rfl rfl) rfl rfl (WL.eff (eff_store (v := .int .i64 _) h Tryz.sizeOf3 rfl rfl rfl rfl rfl) rfl rfl ?_))
  rintro _ w h
  try simp only [Nat.zero_add, Nat.add_zero, List.set_cons_zero, List.set_cons_succ] at h
  refine WL.nil (W.seq (W.region (WL.val run_move rfl rfl (WL.val run_assign rfl rfl (WL.nil (W.ret (bodyQ.r1 (v := .slice _ _ _) Tryz.results140 rfl ?_)))))))
  rw [e]
  exact ⟨none, rfl, h⟩

end Go.Proofs.YtdpakoefdpmebaaGreat
