/-
  The contracts of reservations. Lines of walks printed by a program of the prover's.
-/
import Derived.Test.YtdpakoefdpmebaaGreatResv
import Derived.Test.YtdpakoefdpmebaaGreatResvModel
namespace Go.Proofs.YtdpakoefdpmebaaGreat
open Go Go.Sl Go.Sl.RsM
set_option linter.unusedVariables false
set_option linter.unusedSimpArgs false
set_option maxHeartbeats 1000000
set_option maxRecDepth 8000
variable {W0 w : World} {L F : List HProp}

theorem holder_ok {b : Nat} {t : Tb} (h : On W0 (blk b t.cells 152 :: L) w) : Calls Tryz.prog 102 #[.pointer (some ⟨b, 0, none⟩)] w (Ret fun v w' => v = .tuple #[.int .i64 t.hold, .int .i64 t.typ] ∧ On W0 (blk b t.cells 152 :: L) w') := by
  refine enter Tryz.func102 rfl Tryz.ntmps102 rfl (W.seq (W.region (WL.val run_assign rfl rfl (WL.val run_assign rfl rfl (WL.nil (W.seq ?_))))))
  refine W.draw Tryz.follows h (fun w h => ?_)
  refine WT.pure 0 rfl (by kernel_rfl) (fun w' => run_move) rfl rfl (WT.pure 1 rfl (by kernel_rfl) (fun w' => (run_nilCheck rfl)) rfl rfl (WT.pure 2 rfl (by kernel_rfl) (fun w' => (run_fieldAddr 8 Tryz.underlying152 rfl Tryz.sizeOf3 rfl rfl)) rfl rfl (WT.load1 3 rfl (by kernel_rfl) Tryz.isAgg3 rfl (h.cellB rfl) rfl rfl (WT.pure 4 rfl (by kernel_rfl) (fun w' => run_move) rfl rfl (WT.pure 5 rfl (by kernel_rfl) (fun w' => (run_nilCheck rfl)) rfl rfl (WT.pure 6 rfl (by kernel_rfl) (fun w' => (run_fieldAddr 9 Tryz.underlying152 rfl Tryz.sizeOf3 rfl rfl)) rfl rfl (WT.load1 7 rfl (by kernel_rfl) Tryz.isAgg3 rfl (h.cellB rfl) rfl rfl ?_)))))))
  refine WT.pure 8 rfl (by kernel_rfl) (fun w' => run_assign) rfl rfl (WT.pure 9 rfl (by kernel_rfl) (fun w' => run_assign) rfl rfl (WT.done (by kernel_rfl) (W.ret (bodyQ.r2 (v1 := .int .i64 _) (v2 := .int .i64 _) Tryz.results102 rfl rfl ?_))))
  exact ⟨rfl, h⟩

theorem generation_ok {b : Nat} {t : Tb} (h : On W0 (blk b t.cells 152 :: L) w) : Calls Tryz.prog 100 #[.pointer (some ⟨b, 0, none⟩)] w (Ret fun v w' => v = .int .u32 t.gen ∧ On W0 (blk b t.cells 152 :: L) w') := by
  refine enter Tryz.func100 rfl Tryz.ntmps100 rfl (W.seq (W.region (WL.val run_assign rfl rfl (WL.nil (W.seq (W.region (WL.val run_move rfl rfl ?_)))))))
  refine WL.val (run_nilCheck rfl) rfl rfl (WL.val (run_fieldAddr 10 Tryz.underlying152 rfl Tryz.sizeOf126 rfl rfl) rfl rfl (WL.val (run_load1 Tryz.isAgg126 rfl (h.cellB rfl)) rfl rfl (WL.val run_assign rfl rfl (WL.nil (W.ret (bodyQ.r1 (v := .int .u32 _) Tryz.results100 rfl ?_))))))
  exact ⟨rfl, h⟩

theorem key_ok {b : Nat} {t : Tb} {i : Nat} (hi : i < 8) (h : On W0 (blk b t.cells 152 :: L) w) : Calls Tryz.prog 104 #[.pointer (some ⟨b, 0, none⟩), .int .i64 (i : Int)] w (Ret fun v w' => v = .int .u64 (t.K i) ∧ On W0 (blk b t.cells 152 :: L) w') := by
  refine enter Tryz.func104 rfl Tryz.ntmps104 rfl (W.seq (W.region (WL.val run_assign rfl rfl (WL.nil (W.seq (W.seq (W.region ?_)))))))
  refine WL.val run_move rfl rfl (WL.eff (eff_call Tryz.call89 (host_ok h)) rfl rfl ?_)
  rintro _ w ⟨hv, h⟩
  rw [hostB_iff.2 ⟨by omega, by omega⟩] at hv
  subst hv
  refine WL.val (run_not rfl) rfl rfl (WL.nil (W.condF rfl (W.skip (W.seq (W.region (WL.val run_move rfl rfl (WL.val run_move rfl rfl ?_)))))))
  refine WL.val (run_nilCheck rfl) rfl rfl (WL.val (run_fieldAddr 0 Tryz.underlying152 rfl Tryz.sizeOf102 rfl rfl) rfl rfl (WL.val (run_indexAddrArr Tryz.underlying102 Tryz.sizeOf23 rfl rfl (by omega) (by omega)) rfl rfl (WL.val (run_load1 Tryz.isAgg23 rfl (h.cellB (cells_at hi))) rfl rfl (WL.val run_assign rfl rfl (WL.nil (W.ret (bodyQ.r1 (v := .int .u64 _) Tryz.results104 rfl ?_)))))))
  exact ⟨rfl, h⟩

theorem rnew_ok (h : On W0 L w) : Calls Tryz.prog 43 #[] w (Ret fun v w' => ∃ b, v = .pointer (some ⟨b, 0, none⟩) ∧ On W0 (blk b newT.cells 152 :: L) w') := by
  refine enter Tryz.func43 rfl Tryz.ntmps43 rfl (W.seq (W.region (WL.val run_assign rfl rfl (WL.nil (W.seq (W.region (WL.val (run_buildS (pl := [(0, 8), (8, 1), (9, 1), (10, 1)]) (out := [.int .u64 _, .int .u64 _, .int .u64 _, .int .u64 _, .int .u64 _, .int .u64 _, .int .u64 _, .int .u64 _, .int .i64 _, .int .i64 _, .int .u32 _]) Tryz.underlying152 Tryz.zeroValue152 (fun w => by kernel_rfl) rfl (⟨⟨_, _, rfl, rfl, by decide⟩, trivial⟩) rfl) rfl rfl ?_)))))))
  refine WL.eff (eff_box (v := .agg _) (l := [.int .u64 _, .int .u64 _, .int .u64 _, .int .u64 _, .int .u64 _, .int .u64 _, .int .u64 _, .int .u64 _, .int .i64 _, .int .i64 _, .int .u32 _]) h rfl rfl) rfl rfl ?_
  rintro _ w ⟨b2, rfl, h⟩
  refine WL.val run_assign rfl rfl (WL.nil (W.ret (bodyQ.r1 (v := .pointer _) Tryz.results43 rfl ?_)))
  exact ⟨_, rfl, h⟩

theorem allows_ok {b : Nat} {t : Tb} {hh kind : Int} (h : On W0 (blk b t.cells 152 :: L) w) : Calls Tryz.prog 40 #[.pointer (some ⟨b, 0, none⟩), .int .i64 hh, .int .i64 kind] w (Ret fun v w' => (∃ r : Bool, v = .bool r ∧ (r = true ↔ allowP t hh kind)) ∧ On W0 (blk b t.cells 152 :: L) w') := by
  refine enter Tryz.func40 rfl Tryz.ntmps40 rfl (W.seq (W.region (WL.val run_assign rfl rfl (WL.nil (W.seq (W.block (W.seq ?_)))))))
  refine W.region (WL.val run_move rfl rfl (WL.val (run_nilCheck rfl) rfl rfl (WL.val (run_fieldAddr 8 Tryz.underlying152 rfl Tryz.sizeOf3 rfl rfl) rfl rfl (WL.val (run_load1 Tryz.isAgg3 rfl (h.cellB rfl)) rfl rfl ?_))))
  refine WL.dec (run_eql rfl rfl) rfl rfl (fun c12 => ?_) (fun c12 => ?_)
  ·
   refine WL.val run_move rfl rfl (WL.skip rfl rfl (WL.skip rfl rfl (WL.skip rfl rfl (WL.skip rfl rfl (WL.skip rfl rfl (WL.skip rfl rfl (WL.val (run_pickT rfl) rfl rfl ?_)))))))
   refine WL.val run_move rfl rfl (WL.skip rfl rfl (WL.skip rfl rfl (WL.skip rfl rfl (WL.skip rfl rfl (WL.skip rfl rfl (WL.skip rfl rfl (WL.skip rfl rfl ?_)))))))
   refine WL.skip rfl rfl (WL.skip rfl rfl (WL.skip rfl rfl (WL.skip rfl rfl (WL.skip rfl rfl (WL.skip rfl rfl (WL.skip rfl rfl (WL.skip rfl rfl ?_)))))))
   refine WL.val (run_pickT rfl) rfl rfl (WL.val run_assign rfl rfl (WL.nil (W.condT rfl (W.seq (W.region (WL.val run_assign rfl rfl (WL.nil ?_)))))))
   refine W.ret (bodyQ.r1 (v := .bool _) Tryz.results40 rfl ?_)
   exact ⟨⟨_, rfl, iff_of_true rfl (.inl (.inl c12))⟩, h⟩
  refine WL.val run_move rfl rfl (WL.val run_move rfl rfl (WL.val (run_nilCheck rfl) rfl rfl (WL.val (run_fieldAddr 8 Tryz.underlying152 rfl Tryz.sizeOf3 rfl rfl) rfl rfl (WL.val (run_load1 Tryz.isAgg3 rfl (h.cellB rfl)) rfl rfl (WL.val run_move rfl rfl ?_)))))
  refine WL.dec (run_eql rfl rfl) rfl rfl (fun c19 => ?_) (fun c19 => ?_)
  ·
   refine WL.val (run_pickF rfl) rfl rfl (WL.val run_move rfl rfl (WL.skip rfl rfl (WL.skip rfl rfl (WL.skip rfl rfl (WL.skip rfl rfl (WL.skip rfl rfl (WL.skip rfl rfl ?_)))))))
   refine WL.skip rfl rfl (WL.skip rfl rfl (WL.skip rfl rfl (WL.skip rfl rfl (WL.skip rfl rfl (WL.skip rfl rfl (WL.skip rfl rfl (WL.skip rfl rfl ?_)))))))
   refine WL.skip rfl rfl (WL.val (run_pickT rfl) rfl rfl (WL.val run_assign rfl rfl (WL.nil (W.condT rfl (W.seq (W.region (WL.val run_assign rfl rfl ?_)))))))
   refine WL.nil (W.ret (bodyQ.r1 (v := .bool _) Tryz.results40 rfl ?_))
   exact ⟨⟨_, rfl, iff_of_true rfl (.inl (.inr (.inl c19)))⟩, h⟩
  refine WL.val (run_pickF rfl) rfl rfl (WL.val run_move rfl rfl (WL.val run_move rfl rfl (WL.eff (eff_call Tryz.call88 (regs_ok h)) rfl rfl ?_)))
  rintro _ w ⟨hv, h⟩
  have hcs := Bool.eq_false_or_eq_true (t.regsB)
  rcases hcs with hrg | hrg <;> (rw [hrg] at hv; subst hv)
  ·
   refine WL.val run_move rfl rfl (WL.val run_move rfl rfl (WL.eff (eff_call Tryz.call89 (host_ok h)) rfl rfl ?_))
   rintro _ w ⟨hv, h⟩
   have hcs := Bool.eq_false_or_eq_true (hostB hh)
   rcases hcs with hb | hb <;> (rw [hb] at hv; subst hv)
   ·
    refine WL.val (run_pickT rfl) rfl rfl (WL.val run_move rfl rfl ?_)
    have ob_ := hostB_iff.1 hb
    obtain ⟨hi0, hi8⟩ := ob_
    have ob_ := Int.eq_ofNat_of_zero_le hi0
    obtain ⟨i, rfl⟩ := ob_
    have hi : i < 8 := by omega
    refine WL.val run_move rfl rfl (WL.val run_move rfl rfl (WL.val (run_nilCheck rfl) rfl rfl (WL.val (run_fieldAddr 0 Tryz.underlying152 rfl Tryz.sizeOf102 rfl rfl) rfl rfl (WL.val (run_indexAddrArr Tryz.underlying102 Tryz.sizeOf23 rfl rfl (by omega) (by omega)) rfl rfl (WL.val (run_load1 Tryz.isAgg23 rfl (h.cellB (cells_at hi))) rfl rfl ?_)))))
    refine WL.dec (run_neq rfl rfl) rfl rfl (fun c35 => ?_) (fun c35 => ?_)
    ·
     refine WL.val (run_pickT rfl) rfl rfl (WL.val (run_pickF rfl) rfl rfl (WL.val run_assign rfl rfl (WL.nil (W.condT rfl (W.seq (W.region (WL.val run_assign rfl rfl ?_)))))))
     refine WL.nil (W.ret (bodyQ.r1 (v := .bool _) Tryz.results40 rfl ?_))
     exact ⟨⟨_, rfl, iff_of_true rfl (.inl (.inr (.inr ⟨hrg, i, rfl, hi, c35⟩)))⟩, h⟩
    refine WL.val (run_pickT rfl) rfl rfl (WL.val (run_pickF rfl) rfl rfl (WL.val run_assign rfl rfl (WL.nil (W.condF rfl (W.skip (W.seq (W.seq ?_)))))))
    have hal : ¬ alwP t (i : Int) := by
      rintro (h1 | h1 | ⟨h1, j, hj, h2, h3⟩)
      · exact c12 h1
      · exact c19 h1
      · have hij : i = j := Int.ofNat.inj hj
        subst hij
        exact c35 h3
    refine W.region (WL.val run_move rfl rfl (WL.nil (W.block (W.seq (W.seq (W.region (WL.val (run_eql rfl rfl) rfl rfl ?_)))))))
    refine WL.val run_assign rfl rfl (WL.nil ?_)
    refine W.condIf rfl (fun c10 => ?_) (fun c10 => ?_)
    ·
     refine W.skip ?_
     refine W.condIf rfl (fun c13 => ?_) (fun c13 => ?_)
     ·
      refine W.seq (W.region (WL.val run_move rfl rfl (WL.val (run_nilCheck rfl) rfl rfl (WL.val (run_fieldAddr 9 Tryz.underlying152 rfl Tryz.sizeOf3 rfl rfl) rfl rfl (WL.val (run_load1 Tryz.isAgg3 rfl (h.cellB rfl)) rfl rfl ?_)))))
      refine WL.dec (run_eql rfl rfl) rfl rfl (fun c46 => ?_) (fun c46 => ?_)
      ·
       refine WL.val run_move rfl rfl (WL.skip rfl rfl (WL.skip rfl rfl (WL.skip rfl rfl (WL.skip rfl rfl (WL.skip rfl rfl (WL.val (run_pickT rfl) rfl rfl (WL.val run_assign rfl rfl ?_)))))))
       refine WL.nil (W.ret (bodyQ.r1 (v := .bool _) Tryz.results40 rfl ?_))
       refine ⟨⟨_, rfl, ?_⟩, h⟩
       unfold allowP
       simp only [hal, false_or]
       first
       | (exfalso; omega)
       | (refine iff_of_true trivial ?_; omega)
       | (refine iff_of_false (by decide) ?_; omega)
       | (rw [decide_eq_true_iff]; omega)
      refine WL.val run_move rfl rfl (WL.val run_move rfl rfl (WL.val (run_nilCheck rfl) rfl rfl (WL.val (run_fieldAddr 9 Tryz.underlying152 rfl Tryz.sizeOf3 rfl rfl) rfl rfl (WL.val (run_load1 Tryz.isAgg3 rfl (h.cellB rfl)) rfl rfl (WL.val (run_eql rfl rfl) rfl rfl (WL.val (run_pickF rfl) rfl rfl (WL.val run_assign rfl rfl ?_)))))))
      refine WL.nil (W.ret (bodyQ.r1 (v := .bool _) Tryz.results40 rfl ?_))
      refine ⟨⟨_, rfl, ?_⟩, h⟩
      unfold allowP
      simp only [hal, false_or]
      first
      | (exfalso; omega)
      | (refine iff_of_true trivial ?_; omega)
      | (refine iff_of_false (by decide) ?_; omega)
      | (rw [decide_eq_true_iff]; omega)
     refine W.seq (W.seq (W.region (WL.val (run_eql rfl rfl) rfl rfl (WL.val run_assign rfl rfl (WL.nil ?_)))))
     refine W.condIf rfl (fun c17 => ?_) (fun c17 => ?_)
     ·
      refine W.skip ?_
      refine W.condIf rfl (fun c26 => ?_) (fun c26 => ?_)
      ·
       refine W.seq (W.region (WL.val run_assign rfl rfl (WL.nil (W.ret (bodyQ.r1 (v := .bool _) Tryz.results40 rfl ?_)))))
       refine ⟨⟨_, rfl, ?_⟩, h⟩
       unfold allowP
       simp only [hal, false_or]
       first
       | (exfalso; omega)
       | (refine iff_of_true trivial ?_; omega)
       | (refine iff_of_false (by decide) ?_; omega)
       | (rw [decide_eq_true_iff]; omega)
      refine W.skip (W.seq (W.region (WL.val run_assign rfl rfl (WL.nil (W.ret (bodyQ.r1 (v := .bool _) Tryz.results40 rfl ?_))))))
      refine ⟨⟨_, rfl, ?_⟩, h⟩
      unfold allowP
      simp only [hal, false_or]
      first
      | (exfalso; omega)
      | (refine iff_of_true trivial ?_; omega)
      | (refine iff_of_false (by decide) ?_; omega)
      | (rw [decide_eq_true_iff]; omega)
     refine W.seq (W.region (WL.val (run_eql rfl rfl) rfl rfl (WL.val run_assign rfl rfl (WL.nil ?_))))
     refine W.condIf rfl (fun c20 => ?_) (fun c20 => ?_)
     ·
      refine W.skip ?_
      refine W.condIf rfl (fun c26 => ?_) (fun c26 => ?_)
      ·
       refine W.seq (W.region (WL.val run_assign rfl rfl (WL.nil (W.ret (bodyQ.r1 (v := .bool _) Tryz.results40 rfl ?_)))))
       refine ⟨⟨_, rfl, ?_⟩, h⟩
       unfold allowP
       simp only [hal, false_or]
       first
       | (exfalso; omega)
       | (refine iff_of_true trivial ?_; omega)
       | (refine iff_of_false (by decide) ?_; omega)
       | (rw [decide_eq_true_iff]; omega)
      refine W.skip (W.seq (W.region (WL.val run_assign rfl rfl (WL.nil (W.ret (bodyQ.r1 (v := .bool _) Tryz.results40 rfl ?_))))))
      refine ⟨⟨_, rfl, ?_⟩, h⟩
      unfold allowP
      simp only [hal, false_or]
      first
      | (exfalso; omega)
      | (refine iff_of_true trivial ?_; omega)
      | (refine iff_of_false (by decide) ?_; omega)
      | (rw [decide_eq_true_iff]; omega)
     refine W.seq (W.region (WL.val (run_eql rfl rfl) rfl rfl (WL.val run_assign rfl rfl (WL.nil ?_))))
     refine W.condIf rfl (fun c23 => ?_) (fun c23 => ?_)
     ·
      refine W.skip ?_
      refine W.condIf rfl (fun c26 => ?_) (fun c26 => ?_)
      ·
       refine W.seq (W.region (WL.val run_assign rfl rfl (WL.nil (W.ret (bodyQ.r1 (v := .bool _) Tryz.results40 rfl ?_)))))
       refine ⟨⟨_, rfl, ?_⟩, h⟩
       unfold allowP
       simp only [hal, false_or]
       first
       | (exfalso; omega)
       | (refine iff_of_true trivial ?_; omega)
       | (refine iff_of_false (by decide) ?_; omega)
       | (rw [decide_eq_true_iff]; omega)
      refine W.skip (W.seq (W.region (WL.val run_assign rfl rfl (WL.nil (W.ret (bodyQ.r1 (v := .bool _) Tryz.results40 rfl ?_))))))
      refine ⟨⟨_, rfl, ?_⟩, h⟩
      unfold allowP
      simp only [hal, false_or]
      first
      | (exfalso; omega)
      | (refine iff_of_true trivial ?_; omega)
      | (refine iff_of_false (by decide) ?_; omega)
      | (rw [decide_eq_true_iff]; omega)
     refine W.region (WL.val (run_eql rfl rfl) rfl rfl (WL.val run_assign rfl rfl (WL.nil ?_)))
     refine W.condIf rfl (fun c26 => ?_) (fun c26 => ?_)
     ·
      refine W.seq (W.region (WL.val run_assign rfl rfl (WL.nil (W.ret (bodyQ.r1 (v := .bool _) Tryz.results40 rfl ?_)))))
      refine ⟨⟨_, rfl, ?_⟩, h⟩
      unfold allowP
      simp only [hal, false_or]
      first
      | (exfalso; omega)
      | (refine iff_of_true trivial ?_; omega)
      | (refine iff_of_false (by decide) ?_; omega)
      | (rw [decide_eq_true_iff]; omega)
     refine W.skip (W.seq (W.region (WL.val run_assign rfl rfl (WL.nil (W.ret (bodyQ.r1 (v := .bool _) Tryz.results40 rfl ?_))))))
     refine ⟨⟨_, rfl, ?_⟩, h⟩
     unfold allowP
     simp only [hal, false_or]
     first
     | (exfalso; omega)
     | (refine iff_of_true trivial ?_; omega)
     | (refine iff_of_false (by decide) ?_; omega)
     | (rw [decide_eq_true_iff]; omega)
    refine W.region (WL.val (run_eql rfl rfl) rfl rfl (WL.val run_assign rfl rfl (WL.nil ?_)))
    refine W.condIf rfl (fun c13 => ?_) (fun c13 => ?_)
    ·
     refine W.seq (W.region (WL.val run_move rfl rfl (WL.val (run_nilCheck rfl) rfl rfl (WL.val (run_fieldAddr 9 Tryz.underlying152 rfl Tryz.sizeOf3 rfl rfl) rfl rfl (WL.val (run_load1 Tryz.isAgg3 rfl (h.cellB rfl)) rfl rfl ?_)))))
     refine WL.dec (run_eql rfl rfl) rfl rfl (fun c46 => ?_) (fun c46 => ?_)
     ·
      refine WL.val run_move rfl rfl (WL.skip rfl rfl (WL.skip rfl rfl (WL.skip rfl rfl (WL.skip rfl rfl (WL.skip rfl rfl (WL.val (run_pickT rfl) rfl rfl (WL.val run_assign rfl rfl ?_)))))))
      refine WL.nil (W.ret (bodyQ.r1 (v := .bool _) Tryz.results40 rfl ?_))
      refine ⟨⟨_, rfl, ?_⟩, h⟩
      unfold allowP
      simp only [hal, false_or]
      first
      | (exfalso; omega)
      | (refine iff_of_true trivial ?_; omega)
      | (refine iff_of_false (by decide) ?_; omega)
      | (rw [decide_eq_true_iff]; omega)
     refine WL.val run_move rfl rfl (WL.val run_move rfl rfl (WL.val (run_nilCheck rfl) rfl rfl (WL.val (run_fieldAddr 9 Tryz.underlying152 rfl Tryz.sizeOf3 rfl rfl) rfl rfl (WL.val (run_load1 Tryz.isAgg3 rfl (h.cellB rfl)) rfl rfl (WL.val (run_eql rfl rfl) rfl rfl (WL.val (run_pickF rfl) rfl rfl (WL.val run_assign rfl rfl ?_)))))))
     refine WL.nil (W.ret (bodyQ.r1 (v := .bool _) Tryz.results40 rfl ?_))
     refine ⟨⟨_, rfl, ?_⟩, h⟩
     unfold allowP
     simp only [hal, false_or]
     first
     | (exfalso; omega)
     | (refine iff_of_true trivial ?_; omega)
     | (refine iff_of_false (by decide) ?_; omega)
     | (rw [decide_eq_true_iff]; omega)
    refine W.seq (W.seq (W.region (WL.val (run_eql rfl rfl) rfl rfl (WL.val run_assign rfl rfl (WL.nil ?_)))))
    refine W.condIf rfl (fun c17 => ?_) (fun c17 => ?_)
    ·
     refine W.skip ?_
     refine W.condIf rfl (fun c26 => ?_) (fun c26 => ?_)
     ·
      refine W.seq (W.region (WL.val run_assign rfl rfl (WL.nil (W.ret (bodyQ.r1 (v := .bool _) Tryz.results40 rfl ?_)))))
      refine ⟨⟨_, rfl, ?_⟩, h⟩
      unfold allowP
      simp only [hal, false_or]
      first
      | (exfalso; omega)
      | (refine iff_of_true trivial ?_; omega)
      | (refine iff_of_false (by decide) ?_; omega)
      | (rw [decide_eq_true_iff]; omega)
     refine W.skip (W.seq (W.region (WL.val run_assign rfl rfl (WL.nil (W.ret (bodyQ.r1 (v := .bool _) Tryz.results40 rfl ?_))))))
     refine ⟨⟨_, rfl, ?_⟩, h⟩
     unfold allowP
     simp only [hal, false_or]
     first
     | (exfalso; omega)
     | (refine iff_of_true trivial ?_; omega)
     | (refine iff_of_false (by decide) ?_; omega)
     | (rw [decide_eq_true_iff]; omega)
    refine W.seq (W.region (WL.val (run_eql rfl rfl) rfl rfl (WL.val run_assign rfl rfl (WL.nil ?_))))
    refine W.condIf rfl (fun c20 => ?_) (fun c20 => ?_)
    ·
     refine W.skip ?_
     refine W.condIf rfl (fun c26 => ?_) (fun c26 => ?_)
     ·
      refine W.seq (W.region (WL.val run_assign rfl rfl (WL.nil (W.ret (bodyQ.r1 (v := .bool _) Tryz.results40 rfl ?_)))))
      refine ⟨⟨_, rfl, ?_⟩, h⟩
      unfold allowP
      simp only [hal, false_or]
      first
      | (exfalso; omega)
      | (refine iff_of_true trivial ?_; omega)
      | (refine iff_of_false (by decide) ?_; omega)
      | (rw [decide_eq_true_iff]; omega)
     refine W.skip (W.seq (W.region (WL.val run_assign rfl rfl (WL.nil (W.ret (bodyQ.r1 (v := .bool _) Tryz.results40 rfl ?_))))))
     refine ⟨⟨_, rfl, ?_⟩, h⟩
     unfold allowP
     simp only [hal, false_or]
     first
     | (exfalso; omega)
     | (refine iff_of_true trivial ?_; omega)
     | (refine iff_of_false (by decide) ?_; omega)
     | (rw [decide_eq_true_iff]; omega)
    refine W.seq (W.region (WL.val (run_eql rfl rfl) rfl rfl (WL.val run_assign rfl rfl (WL.nil ?_))))
    refine W.condIf rfl (fun c23 => ?_) (fun c23 => ?_)
    ·
     refine W.skip ?_
     refine W.condIf rfl (fun c26 => ?_) (fun c26 => ?_)
     ·
      refine W.seq (W.region (WL.val run_assign rfl rfl (WL.nil (W.ret (bodyQ.r1 (v := .bool _) Tryz.results40 rfl ?_)))))
      refine ⟨⟨_, rfl, ?_⟩, h⟩
      unfold allowP
      simp only [hal, false_or]
      first
      | (exfalso; omega)
      | (refine iff_of_true trivial ?_; omega)
      | (refine iff_of_false (by decide) ?_; omega)
      | (rw [decide_eq_true_iff]; omega)
     refine W.skip (W.seq (W.region (WL.val run_assign rfl rfl (WL.nil (W.ret (bodyQ.r1 (v := .bool _) Tryz.results40 rfl ?_))))))
     refine ⟨⟨_, rfl, ?_⟩, h⟩
     unfold allowP
     simp only [hal, false_or]
     first
     | (exfalso; omega)
     | (refine iff_of_true trivial ?_; omega)
     | (refine iff_of_false (by decide) ?_; omega)
     | (rw [decide_eq_true_iff]; omega)
    refine W.region (WL.val (run_eql rfl rfl) rfl rfl (WL.val run_assign rfl rfl (WL.nil ?_)))
    refine W.condIf rfl (fun c26 => ?_) (fun c26 => ?_)
    ·
     refine W.seq (W.region (WL.val run_assign rfl rfl (WL.nil (W.ret (bodyQ.r1 (v := .bool _) Tryz.results40 rfl ?_)))))
     refine ⟨⟨_, rfl, ?_⟩, h⟩
     unfold allowP
     simp only [hal, false_or]
     first
     | (exfalso; omega)
     | (refine iff_of_true trivial ?_; omega)
     | (refine iff_of_false (by decide) ?_; omega)
     | (rw [decide_eq_true_iff]; omega)
    refine W.skip (W.seq (W.region (WL.val run_assign rfl rfl (WL.nil (W.ret (bodyQ.r1 (v := .bool _) Tryz.results40 rfl ?_))))))
    refine ⟨⟨_, rfl, ?_⟩, h⟩
    unfold allowP
    simp only [hal, false_or]
    first
    | (exfalso; omega)
    | (refine iff_of_true trivial ?_; omega)
    | (refine iff_of_false (by decide) ?_; omega)
    | (rw [decide_eq_true_iff]; omega)
   refine WL.val (run_pickT rfl) rfl rfl (WL.val run_move rfl rfl (WL.skip rfl rfl (WL.skip rfl rfl (WL.skip rfl rfl (WL.skip rfl rfl (WL.skip rfl rfl (WL.skip rfl rfl ?_)))))))
   refine WL.skip rfl rfl (WL.val (run_pickF rfl) rfl rfl (WL.val (run_pickF rfl) rfl rfl (WL.val run_assign rfl rfl (WL.nil (W.condF rfl (W.skip (W.seq ?_)))))))
   refine W.seq ?_
   have hal : ¬ alwP t hh := by
     rintro (h1 | h1 | ⟨h1, j, hj, h2, h3⟩)
     · exact c12 h1
     · exact c19 h1
     · have hb2 := hostB_no.1 hb; omega
   refine W.region (WL.val run_move rfl rfl (WL.nil (W.block (W.seq (W.seq (W.region (WL.val (run_eql rfl rfl) rfl rfl ?_)))))))
   refine WL.val run_assign rfl rfl (WL.nil ?_)
   refine W.condIf rfl (fun c10 => ?_) (fun c10 => ?_)
   ·
    refine W.skip ?_
    refine W.condIf rfl (fun c13 => ?_) (fun c13 => ?_)
    ·
     refine W.seq (W.region (WL.val run_move rfl rfl (WL.val (run_nilCheck rfl) rfl rfl (WL.val (run_fieldAddr 9 Tryz.underlying152 rfl Tryz.sizeOf3 rfl rfl) rfl rfl (WL.val (run_load1 Tryz.isAgg3 rfl (h.cellB rfl)) rfl rfl ?_)))))
     refine WL.dec (run_eql rfl rfl) rfl rfl (fun c46 => ?_) (fun c46 => ?_)
     ·
      refine WL.val run_move rfl rfl (WL.skip rfl rfl (WL.skip rfl rfl (WL.skip rfl rfl (WL.skip rfl rfl (WL.skip rfl rfl (WL.val (run_pickT rfl) rfl rfl (WL.val run_assign rfl rfl ?_)))))))
      refine WL.nil (W.ret (bodyQ.r1 (v := .bool _) Tryz.results40 rfl ?_))
      refine ⟨⟨_, rfl, ?_⟩, h⟩
      unfold allowP
      simp only [hal, false_or]
      first
      | (exfalso; omega)
      | (refine iff_of_true trivial ?_; omega)
      | (refine iff_of_false (by decide) ?_; omega)
      | (rw [decide_eq_true_iff]; omega)
     refine WL.val run_move rfl rfl (WL.val run_move rfl rfl (WL.val (run_nilCheck rfl) rfl rfl (WL.val (run_fieldAddr 9 Tryz.underlying152 rfl Tryz.sizeOf3 rfl rfl) rfl rfl (WL.val (run_load1 Tryz.isAgg3 rfl (h.cellB rfl)) rfl rfl (WL.val (run_eql rfl rfl) rfl rfl (WL.val (run_pickF rfl) rfl rfl (WL.val run_assign rfl rfl ?_)))))))
     refine WL.nil (W.ret (bodyQ.r1 (v := .bool _) Tryz.results40 rfl ?_))
     refine ⟨⟨_, rfl, ?_⟩, h⟩
     unfold allowP
     simp only [hal, false_or]
     first
     | (exfalso; omega)
     | (refine iff_of_true trivial ?_; omega)
     | (refine iff_of_false (by decide) ?_; omega)
     | (rw [decide_eq_true_iff]; omega)
    refine W.seq (W.seq (W.region (WL.val (run_eql rfl rfl) rfl rfl (WL.val run_assign rfl rfl (WL.nil ?_)))))
    refine W.condIf rfl (fun c17 => ?_) (fun c17 => ?_)
    ·
     refine W.skip ?_
     refine W.condIf rfl (fun c26 => ?_) (fun c26 => ?_)
     ·
      refine W.seq (W.region (WL.val run_assign rfl rfl (WL.nil (W.ret (bodyQ.r1 (v := .bool _) Tryz.results40 rfl ?_)))))
      refine ⟨⟨_, rfl, ?_⟩, h⟩
      unfold allowP
      simp only [hal, false_or]
      first
      | (exfalso; omega)
      | (refine iff_of_true trivial ?_; omega)
      | (refine iff_of_false (by decide) ?_; omega)
      | (rw [decide_eq_true_iff]; omega)
     refine W.skip (W.seq (W.region (WL.val run_assign rfl rfl (WL.nil (W.ret (bodyQ.r1 (v := .bool _) Tryz.results40 rfl ?_))))))
     refine ⟨⟨_, rfl, ?_⟩, h⟩
     unfold allowP
     simp only [hal, false_or]
     first
     | (exfalso; omega)
     | (refine iff_of_true trivial ?_; omega)
     | (refine iff_of_false (by decide) ?_; omega)
     | (rw [decide_eq_true_iff]; omega)
    refine W.seq (W.region (WL.val (run_eql rfl rfl) rfl rfl (WL.val run_assign rfl rfl (WL.nil ?_))))
    refine W.condIf rfl (fun c20 => ?_) (fun c20 => ?_)
    ·
     refine W.skip ?_
     refine W.condIf rfl (fun c26 => ?_) (fun c26 => ?_)
     ·
      refine W.seq (W.region (WL.val run_assign rfl rfl (WL.nil (W.ret (bodyQ.r1 (v := .bool _) Tryz.results40 rfl ?_)))))
      refine ⟨⟨_, rfl, ?_⟩, h⟩
      unfold allowP
      simp only [hal, false_or]
      first
      | (exfalso; omega)
      | (refine iff_of_true trivial ?_; omega)
      | (refine iff_of_false (by decide) ?_; omega)
      | (rw [decide_eq_true_iff]; omega)
     refine W.skip (W.seq (W.region (WL.val run_assign rfl rfl (WL.nil (W.ret (bodyQ.r1 (v := .bool _) Tryz.results40 rfl ?_))))))
     refine ⟨⟨_, rfl, ?_⟩, h⟩
     unfold allowP
     simp only [hal, false_or]
     first
     | (exfalso; omega)
     | (refine iff_of_true trivial ?_; omega)
     | (refine iff_of_false (by decide) ?_; omega)
     | (rw [decide_eq_true_iff]; omega)
    refine W.seq (W.region (WL.val (run_eql rfl rfl) rfl rfl (WL.val run_assign rfl rfl (WL.nil ?_))))
    refine W.condIf rfl (fun c23 => ?_) (fun c23 => ?_)
    ·
     refine W.skip ?_
     refine W.condIf rfl (fun c26 => ?_) (fun c26 => ?_)
     ·
      refine W.seq (W.region (WL.val run_assign rfl rfl (WL.nil (W.ret (bodyQ.r1 (v := .bool _) Tryz.results40 rfl ?_)))))
      refine ⟨⟨_, rfl, ?_⟩, h⟩
      unfold allowP
      simp only [hal, false_or]
      first
      | (exfalso; omega)
      | (refine iff_of_true trivial ?_; omega)
      | (refine iff_of_false (by decide) ?_; omega)
      | (rw [decide_eq_true_iff]; omega)
     refine W.skip (W.seq (W.region (WL.val run_assign rfl rfl (WL.nil (W.ret (bodyQ.r1 (v := .bool _) Tryz.results40 rfl ?_))))))
     refine ⟨⟨_, rfl, ?_⟩, h⟩
     unfold allowP
     simp only [hal, false_or]
     first
     | (exfalso; omega)
     | (refine iff_of_true trivial ?_; omega)
     | (refine iff_of_false (by decide) ?_; omega)
     | (rw [decide_eq_true_iff]; omega)
    refine W.region (WL.val (run_eql rfl rfl) rfl rfl (WL.val run_assign rfl rfl (WL.nil ?_)))
    refine W.condIf rfl (fun c26 => ?_) (fun c26 => ?_)
    ·
     refine W.seq (W.region (WL.val run_assign rfl rfl (WL.nil (W.ret (bodyQ.r1 (v := .bool _) Tryz.results40 rfl ?_)))))
     refine ⟨⟨_, rfl, ?_⟩, h⟩
     unfold allowP
     simp only [hal, false_or]
     first
     | (exfalso; omega)
     | (refine iff_of_true trivial ?_; omega)
     | (refine iff_of_false (by decide) ?_; omega)
     | (rw [decide_eq_true_iff]; omega)
    refine W.skip (W.seq (W.region (WL.val run_assign rfl rfl (WL.nil (W.ret (bodyQ.r1 (v := .bool _) Tryz.results40 rfl ?_))))))
    refine ⟨⟨_, rfl, ?_⟩, h⟩
    unfold allowP
    simp only [hal, false_or]
    first
    | (exfalso; omega)
    | (refine iff_of_true trivial ?_; omega)
    | (refine iff_of_false (by decide) ?_; omega)
    | (rw [decide_eq_true_iff]; omega)
   refine W.region (WL.val (run_eql rfl rfl) rfl rfl (WL.val run_assign rfl rfl (WL.nil ?_)))
   refine W.condIf rfl (fun c13 => ?_) (fun c13 => ?_)
   ·
    refine W.seq (W.region (WL.val run_move rfl rfl (WL.val (run_nilCheck rfl) rfl rfl (WL.val (run_fieldAddr 9 Tryz.underlying152 rfl Tryz.sizeOf3 rfl rfl) rfl rfl (WL.val (run_load1 Tryz.isAgg3 rfl (h.cellB rfl)) rfl rfl ?_)))))
    refine WL.dec (run_eql rfl rfl) rfl rfl (fun c46 => ?_) (fun c46 => ?_)
    ·
     refine WL.val run_move rfl rfl (WL.skip rfl rfl (WL.skip rfl rfl (WL.skip rfl rfl (WL.skip rfl rfl (WL.skip rfl rfl (WL.val (run_pickT rfl) rfl rfl (WL.val run_assign rfl rfl ?_)))))))
     refine WL.nil (W.ret (bodyQ.r1 (v := .bool _) Tryz.results40 rfl ?_))
     refine ⟨⟨_, rfl, ?_⟩, h⟩
     unfold allowP
     simp only [hal, false_or]
     first
     | (exfalso; omega)
     | (refine iff_of_true trivial ?_; omega)
     | (refine iff_of_false (by decide) ?_; omega)
     | (rw [decide_eq_true_iff]; omega)
    refine WL.val run_move rfl rfl (WL.val run_move rfl rfl (WL.val (run_nilCheck rfl) rfl rfl (WL.val (run_fieldAddr 9 Tryz.underlying152 rfl Tryz.sizeOf3 rfl rfl) rfl rfl (WL.val (run_load1 Tryz.isAgg3 rfl (h.cellB rfl)) rfl rfl (WL.val (run_eql rfl rfl) rfl rfl (WL.val (run_pickF rfl) rfl rfl (WL.val run_assign rfl rfl ?_)))))))
    refine WL.nil (W.ret (bodyQ.r1 (v := .bool _) Tryz.results40 rfl ?_))
    refine ⟨⟨_, rfl, ?_⟩, h⟩
    unfold allowP
    simp only [hal, false_or]
    first
    | (exfalso; omega)
    | (refine iff_of_true trivial ?_; omega)
    | (refine iff_of_false (by decide) ?_; omega)
    | (rw [decide_eq_true_iff]; omega)
   refine W.seq (W.seq (W.region (WL.val (run_eql rfl rfl) rfl rfl (WL.val run_assign rfl rfl (WL.nil ?_)))))
   refine W.condIf rfl (fun c17 => ?_) (fun c17 => ?_)
   ·
    refine W.skip ?_
    refine W.condIf rfl (fun c26 => ?_) (fun c26 => ?_)
    ·
     refine W.seq (W.region (WL.val run_assign rfl rfl (WL.nil (W.ret (bodyQ.r1 (v := .bool _) Tryz.results40 rfl ?_)))))
     refine ⟨⟨_, rfl, ?_⟩, h⟩
     unfold allowP
     simp only [hal, false_or]
     first
     | (exfalso; omega)
     | (refine iff_of_true trivial ?_; omega)
     | (refine iff_of_false (by decide) ?_; omega)
     | (rw [decide_eq_true_iff]; omega)
    refine W.skip (W.seq (W.region (WL.val run_assign rfl rfl (WL.nil (W.ret (bodyQ.r1 (v := .bool _) Tryz.results40 rfl ?_))))))
    refine ⟨⟨_, rfl, ?_⟩, h⟩
    unfold allowP
    simp only [hal, false_or]
    first
    | (exfalso; omega)
    | (refine iff_of_true trivial ?_; omega)
    | (refine iff_of_false (by decide) ?_; omega)
    | (rw [decide_eq_true_iff]; omega)
   refine W.seq (W.region (WL.val (run_eql rfl rfl) rfl rfl (WL.val run_assign rfl rfl (WL.nil ?_))))
   refine W.condIf rfl (fun c20 => ?_) (fun c20 => ?_)
   ·
    refine W.skip ?_
    refine W.condIf rfl (fun c26 => ?_) (fun c26 => ?_)
    ·
     refine W.seq (W.region (WL.val run_assign rfl rfl (WL.nil (W.ret (bodyQ.r1 (v := .bool _) Tryz.results40 rfl ?_)))))
     refine ⟨⟨_, rfl, ?_⟩, h⟩
     unfold allowP
     simp only [hal, false_or]
     first
     | (exfalso; omega)
     | (refine iff_of_true trivial ?_; omega)
     | (refine iff_of_false (by decide) ?_; omega)
     | (rw [decide_eq_true_iff]; omega)
    refine W.skip (W.seq (W.region (WL.val run_assign rfl rfl (WL.nil (W.ret (bodyQ.r1 (v := .bool _) Tryz.results40 rfl ?_))))))
    refine ⟨⟨_, rfl, ?_⟩, h⟩
    unfold allowP
    simp only [hal, false_or]
    first
    | (exfalso; omega)
    | (refine iff_of_true trivial ?_; omega)
    | (refine iff_of_false (by decide) ?_; omega)
    | (rw [decide_eq_true_iff]; omega)
   refine W.seq (W.region (WL.val (run_eql rfl rfl) rfl rfl (WL.val run_assign rfl rfl (WL.nil ?_))))
   refine W.condIf rfl (fun c23 => ?_) (fun c23 => ?_)
   ·
    refine W.skip ?_
    refine W.condIf rfl (fun c26 => ?_) (fun c26 => ?_)
    ·
     refine W.seq (W.region (WL.val run_assign rfl rfl (WL.nil (W.ret (bodyQ.r1 (v := .bool _) Tryz.results40 rfl ?_)))))
     refine ⟨⟨_, rfl, ?_⟩, h⟩
     unfold allowP
     simp only [hal, false_or]
     first
     | (exfalso; omega)
     | (refine iff_of_true trivial ?_; omega)
     | (refine iff_of_false (by decide) ?_; omega)
     | (rw [decide_eq_true_iff]; omega)
    refine W.skip (W.seq (W.region (WL.val run_assign rfl rfl (WL.nil (W.ret (bodyQ.r1 (v := .bool _) Tryz.results40 rfl ?_))))))
    refine ⟨⟨_, rfl, ?_⟩, h⟩
    unfold allowP
    simp only [hal, false_or]
    first
    | (exfalso; omega)
    | (refine iff_of_true trivial ?_; omega)
    | (refine iff_of_false (by decide) ?_; omega)
    | (rw [decide_eq_true_iff]; omega)
   refine W.region (WL.val (run_eql rfl rfl) rfl rfl (WL.val run_assign rfl rfl (WL.nil ?_)))
   refine W.condIf rfl (fun c26 => ?_) (fun c26 => ?_)
   ·
    refine W.seq (W.region (WL.val run_assign rfl rfl (WL.nil (W.ret (bodyQ.r1 (v := .bool _) Tryz.results40 rfl ?_)))))
    refine ⟨⟨_, rfl, ?_⟩, h⟩
    unfold allowP
    simp only [hal, false_or]
    first
    | (exfalso; omega)
    | (refine iff_of_true trivial ?_; omega)
    | (refine iff_of_false (by decide) ?_; omega)
    | (rw [decide_eq_true_iff]; omega)
   refine W.skip (W.seq (W.region (WL.val run_assign rfl rfl (WL.nil (W.ret (bodyQ.r1 (v := .bool _) Tryz.results40 rfl ?_))))))
   refine ⟨⟨_, rfl, ?_⟩, h⟩
   unfold allowP
   simp only [hal, false_or]
   first
   | (exfalso; omega)
   | (refine iff_of_true trivial ?_; omega)
   | (refine iff_of_false (by decide) ?_; omega)
   | (rw [decide_eq_true_iff]; omega)
  refine WL.val run_move rfl rfl (WL.skip rfl rfl (WL.skip rfl rfl (WL.val (run_pickF rfl) rfl rfl (WL.val run_move rfl rfl (WL.skip rfl rfl (WL.skip rfl rfl (WL.skip rfl rfl ?_)))))))
  refine WL.skip rfl rfl (WL.skip rfl rfl (WL.skip rfl rfl (WL.skip rfl rfl (WL.val (run_pickF rfl) rfl rfl (WL.val (run_pickF rfl) rfl rfl (WL.val run_assign rfl rfl (WL.nil ?_)))))))
  refine W.condF rfl (W.skip (W.seq (W.seq ?_)))
  have hal : ¬ alwP t hh := by
    rintro (h1 | h1 | ⟨h1, j, hj, h2, h3⟩)
    · exact c12 h1
    · exact c19 h1
    · rw [hrg] at h1; cases h1
  refine W.region (WL.val run_move rfl rfl (WL.nil (W.block (W.seq (W.seq (W.region (WL.val (run_eql rfl rfl) rfl rfl ?_)))))))
  refine WL.val run_assign rfl rfl (WL.nil ?_)
  refine W.condIf rfl (fun c10 => ?_) (fun c10 => ?_)
  ·
   refine W.skip ?_
   refine W.condIf rfl (fun c13 => ?_) (fun c13 => ?_)
   ·
    refine W.seq (W.region (WL.val run_move rfl rfl (WL.val (run_nilCheck rfl) rfl rfl (WL.val (run_fieldAddr 9 Tryz.underlying152 rfl Tryz.sizeOf3 rfl rfl) rfl rfl (WL.val (run_load1 Tryz.isAgg3 rfl (h.cellB rfl)) rfl rfl ?_)))))
    refine WL.dec (run_eql rfl rfl) rfl rfl (fun c46 => ?_) (fun c46 => ?_)
    ·
     refine WL.val run_move rfl rfl (WL.skip rfl rfl (WL.skip rfl rfl (WL.skip rfl rfl (WL.skip rfl rfl (WL.skip rfl rfl (WL.val (run_pickT rfl) rfl rfl (WL.val run_assign rfl rfl ?_)))))))
     refine WL.nil (W.ret (bodyQ.r1 (v := .bool _) Tryz.results40 rfl ?_))
     refine ⟨⟨_, rfl, ?_⟩, h⟩
     unfold allowP
     simp only [hal, false_or]
     first
     | (exfalso; omega)
     | (refine iff_of_true trivial ?_; omega)
     | (refine iff_of_false (by decide) ?_; omega)
     | (rw [decide_eq_true_iff]; omega)
    refine WL.val run_move rfl rfl (WL.val run_move rfl rfl (WL.val (run_nilCheck rfl) rfl rfl (WL.val (run_fieldAddr 9 Tryz.underlying152 rfl Tryz.sizeOf3 rfl rfl) rfl rfl (WL.val (run_load1 Tryz.isAgg3 rfl (h.cellB rfl)) rfl rfl (WL.val (run_eql rfl rfl) rfl rfl (WL.val (run_pickF rfl) rfl rfl (WL.val run_assign rfl rfl ?_)))))))
    refine WL.nil (W.ret (bodyQ.r1 (v := .bool _) Tryz.results40 rfl ?_))
    refine ⟨⟨_, rfl, ?_⟩, h⟩
    unfold allowP
    simp only [hal, false_or]
    first
    | (exfalso; omega)
    | (refine iff_of_true trivial ?_; omega)
    | (refine iff_of_false (by decide) ?_; omega)
    | (rw [decide_eq_true_iff]; omega)
   refine W.seq (W.seq (W.region (WL.val (run_eql rfl rfl) rfl rfl (WL.val run_assign rfl rfl (WL.nil ?_)))))
   refine W.condIf rfl (fun c17 => ?_) (fun c17 => ?_)
   ·
    refine W.skip ?_
    refine W.condIf rfl (fun c26 => ?_) (fun c26 => ?_)
    ·
     refine W.seq (W.region (WL.val run_assign rfl rfl (WL.nil (W.ret (bodyQ.r1 (v := .bool _) Tryz.results40 rfl ?_)))))
     refine ⟨⟨_, rfl, ?_⟩, h⟩
     unfold allowP
     simp only [hal, false_or]
     first
     | (exfalso; omega)
     | (refine iff_of_true trivial ?_; omega)
     | (refine iff_of_false (by decide) ?_; omega)
     | (rw [decide_eq_true_iff]; omega)
    refine W.skip (W.seq (W.region (WL.val run_assign rfl rfl (WL.nil (W.ret (bodyQ.r1 (v := .bool _) Tryz.results40 rfl ?_))))))
    refine ⟨⟨_, rfl, ?_⟩, h⟩
    unfold allowP
    simp only [hal, false_or]
    first
    | (exfalso; omega)
    | (refine iff_of_true trivial ?_; omega)
    | (refine iff_of_false (by decide) ?_; omega)
    | (rw [decide_eq_true_iff]; omega)
   refine W.seq (W.region (WL.val (run_eql rfl rfl) rfl rfl (WL.val run_assign rfl rfl (WL.nil ?_))))
   refine W.condIf rfl (fun c20 => ?_) (fun c20 => ?_)
   ·
    refine W.skip ?_
    refine W.condIf rfl (fun c26 => ?_) (fun c26 => ?_)
    ·
     refine W.seq (W.region (WL.val run_assign rfl rfl (WL.nil (W.ret (bodyQ.r1 (v := .bool _) Tryz.results40 rfl ?_)))))
     refine ⟨⟨_, rfl, ?_⟩, h⟩
     unfold allowP
     simp only [hal, false_or]
     first
     | (exfalso; omega)
     | (refine iff_of_true trivial ?_; omega)
     | (refine iff_of_false (by decide) ?_; omega)
     | (rw [decide_eq_true_iff]; omega)
    refine W.skip (W.seq (W.region (WL.val run_assign rfl rfl (WL.nil (W.ret (bodyQ.r1 (v := .bool _) Tryz.results40 rfl ?_))))))
    refine ⟨⟨_, rfl, ?_⟩, h⟩
    unfold allowP
    simp only [hal, false_or]
    first
    | (exfalso; omega)
    | (refine iff_of_true trivial ?_; omega)
    | (refine iff_of_false (by decide) ?_; omega)
    | (rw [decide_eq_true_iff]; omega)
   refine W.seq (W.region (WL.val (run_eql rfl rfl) rfl rfl (WL.val run_assign rfl rfl (WL.nil ?_))))
   refine W.condIf rfl (fun c23 => ?_) (fun c23 => ?_)
   ·
    refine W.skip ?_
    refine W.condIf rfl (fun c26 => ?_) (fun c26 => ?_)
    ·
     refine W.seq (W.region (WL.val run_assign rfl rfl (WL.nil (W.ret (bodyQ.r1 (v := .bool _) Tryz.results40 rfl ?_)))))
     refine ⟨⟨_, rfl, ?_⟩, h⟩
     unfold allowP
     simp only [hal, false_or]
     first
     | (exfalso; omega)
     | (refine iff_of_true trivial ?_; omega)
     | (refine iff_of_false (by decide) ?_; omega)
     | (rw [decide_eq_true_iff]; omega)
    refine W.skip (W.seq (W.region (WL.val run_assign rfl rfl (WL.nil (W.ret (bodyQ.r1 (v := .bool _) Tryz.results40 rfl ?_))))))
    refine ⟨⟨_, rfl, ?_⟩, h⟩
    unfold allowP
    simp only [hal, false_or]
    first
    | (exfalso; omega)
    | (refine iff_of_true trivial ?_; omega)
    | (refine iff_of_false (by decide) ?_; omega)
    | (rw [decide_eq_true_iff]; omega)
   refine W.region (WL.val (run_eql rfl rfl) rfl rfl (WL.val run_assign rfl rfl (WL.nil ?_)))
   refine W.condIf rfl (fun c26 => ?_) (fun c26 => ?_)
   ·
    refine W.seq (W.region (WL.val run_assign rfl rfl (WL.nil (W.ret (bodyQ.r1 (v := .bool _) Tryz.results40 rfl ?_)))))
    refine ⟨⟨_, rfl, ?_⟩, h⟩
    unfold allowP
    simp only [hal, false_or]
    first
    | (exfalso; omega)
    | (refine iff_of_true trivial ?_; omega)
    | (refine iff_of_false (by decide) ?_; omega)
    | (rw [decide_eq_true_iff]; omega)
   refine W.skip (W.seq (W.region (WL.val run_assign rfl rfl (WL.nil (W.ret (bodyQ.r1 (v := .bool _) Tryz.results40 rfl ?_))))))
   refine ⟨⟨_, rfl, ?_⟩, h⟩
   unfold allowP
   simp only [hal, false_or]
   first
   | (exfalso; omega)
   | (refine iff_of_true trivial ?_; omega)
   | (refine iff_of_false (by decide) ?_; omega)
   | (rw [decide_eq_true_iff]; omega)
  refine W.region (WL.val (run_eql rfl rfl) rfl rfl (WL.val run_assign rfl rfl (WL.nil ?_)))
  refine W.condIf rfl (fun c13 => ?_) (fun c13 => ?_)
  ·
   refine W.seq (W.region (WL.val run_move rfl rfl (WL.val (run_nilCheck rfl) rfl rfl (WL.val (run_fieldAddr 9 Tryz.underlying152 rfl Tryz.sizeOf3 rfl rfl) rfl rfl (WL.val (run_load1 Tryz.isAgg3 rfl (h.cellB rfl)) rfl rfl ?_)))))
   refine WL.dec (run_eql rfl rfl) rfl rfl (fun c46 => ?_) (fun c46 => ?_)
   ·
    refine WL.val run_move rfl rfl (WL.skip rfl rfl (WL.skip rfl rfl (WL.skip rfl rfl (WL.skip rfl rfl (WL.skip rfl rfl (WL.val (run_pickT rfl) rfl rfl (WL.val run_assign rfl rfl ?_)))))))
    refine WL.nil (W.ret (bodyQ.r1 (v := .bool _) Tryz.results40 rfl ?_))
    refine ⟨⟨_, rfl, ?_⟩, h⟩
    unfold allowP
    simp only [hal, false_or]
    first
    | (exfalso; omega)
    | (refine iff_of_true trivial ?_; omega)
    | (refine iff_of_false (by decide) ?_; omega)
    | (rw [decide_eq_true_iff]; omega)
   refine WL.val run_move rfl rfl (WL.val run_move rfl rfl (WL.val (run_nilCheck rfl) rfl rfl (WL.val (run_fieldAddr 9 Tryz.underlying152 rfl Tryz.sizeOf3 rfl rfl) rfl rfl (WL.val (run_load1 Tryz.isAgg3 rfl (h.cellB rfl)) rfl rfl (WL.val (run_eql rfl rfl) rfl rfl (WL.val (run_pickF rfl) rfl rfl (WL.val run_assign rfl rfl ?_)))))))
   refine WL.nil (W.ret (bodyQ.r1 (v := .bool _) Tryz.results40 rfl ?_))
   refine ⟨⟨_, rfl, ?_⟩, h⟩
   unfold allowP
   simp only [hal, false_or]
   first
   | (exfalso; omega)
   | (refine iff_of_true trivial ?_; omega)
   | (refine iff_of_false (by decide) ?_; omega)
   | (rw [decide_eq_true_iff]; omega)
  refine W.seq (W.seq (W.region (WL.val (run_eql rfl rfl) rfl rfl (WL.val run_assign rfl rfl (WL.nil ?_)))))
  refine W.condIf rfl (fun c17 => ?_) (fun c17 => ?_)
  ·
   refine W.skip ?_
   refine W.condIf rfl (fun c26 => ?_) (fun c26 => ?_)
   ·
    refine W.seq (W.region (WL.val run_assign rfl rfl (WL.nil (W.ret (bodyQ.r1 (v := .bool _) Tryz.results40 rfl ?_)))))
    refine ⟨⟨_, rfl, ?_⟩, h⟩
    unfold allowP
    simp only [hal, false_or]
    first
    | (exfalso; omega)
    | (refine iff_of_true trivial ?_; omega)
    | (refine iff_of_false (by decide) ?_; omega)
    | (rw [decide_eq_true_iff]; omega)
   refine W.skip (W.seq (W.region (WL.val run_assign rfl rfl (WL.nil (W.ret (bodyQ.r1 (v := .bool _) Tryz.results40 rfl ?_))))))
   refine ⟨⟨_, rfl, ?_⟩, h⟩
   unfold allowP
   simp only [hal, false_or]
   first
   | (exfalso; omega)
   | (refine iff_of_true trivial ?_; omega)
   | (refine iff_of_false (by decide) ?_; omega)
   | (rw [decide_eq_true_iff]; omega)
  refine W.seq (W.region (WL.val (run_eql rfl rfl) rfl rfl (WL.val run_assign rfl rfl (WL.nil ?_))))
  refine W.condIf rfl (fun c20 => ?_) (fun c20 => ?_)
  ·
   refine W.skip ?_
   refine W.condIf rfl (fun c26 => ?_) (fun c26 => ?_)
   ·
    refine W.seq (W.region (WL.val run_assign rfl rfl (WL.nil (W.ret (bodyQ.r1 (v := .bool _) Tryz.results40 rfl ?_)))))
    refine ⟨⟨_, rfl, ?_⟩, h⟩
    unfold allowP
    simp only [hal, false_or]
    first
    | (exfalso; omega)
    | (refine iff_of_true trivial ?_; omega)
    | (refine iff_of_false (by decide) ?_; omega)
    | (rw [decide_eq_true_iff]; omega)
   refine W.skip (W.seq (W.region (WL.val run_assign rfl rfl (WL.nil (W.ret (bodyQ.r1 (v := .bool _) Tryz.results40 rfl ?_))))))
   refine ⟨⟨_, rfl, ?_⟩, h⟩
   unfold allowP
   simp only [hal, false_or]
   first
   | (exfalso; omega)
   | (refine iff_of_true trivial ?_; omega)
   | (refine iff_of_false (by decide) ?_; omega)
   | (rw [decide_eq_true_iff]; omega)
  refine W.seq (W.region (WL.val (run_eql rfl rfl) rfl rfl (WL.val run_assign rfl rfl (WL.nil ?_))))
  refine W.condIf rfl (fun c23 => ?_) (fun c23 => ?_)
  ·
   refine W.skip ?_
   refine W.condIf rfl (fun c26 => ?_) (fun c26 => ?_)
   ·
    refine W.seq (W.region (WL.val run_assign rfl rfl (WL.nil (W.ret (bodyQ.r1 (v := .bool _) Tryz.results40 rfl ?_)))))
    refine ⟨⟨_, rfl, ?_⟩, h⟩
    unfold allowP
    simp only [hal, false_or]
    first
    | (exfalso; omega)
    | (refine iff_of_true trivial ?_; omega)
    | (refine iff_of_false (by decide) ?_; omega)
    | (rw [decide_eq_true_iff]; omega)
   refine W.skip (W.seq (W.region (WL.val run_assign rfl rfl (WL.nil (W.ret (bodyQ.r1 (v := .bool _) Tryz.results40 rfl ?_))))))
   refine ⟨⟨_, rfl, ?_⟩, h⟩
   unfold allowP
   simp only [hal, false_or]
   first
   | (exfalso; omega)
   | (refine iff_of_true trivial ?_; omega)
   | (refine iff_of_false (by decide) ?_; omega)
   | (rw [decide_eq_true_iff]; omega)
  refine W.region (WL.val (run_eql rfl rfl) rfl rfl (WL.val run_assign rfl rfl (WL.nil ?_)))
  refine W.condIf rfl (fun c26 => ?_) (fun c26 => ?_)
  ·
   refine W.seq (W.region (WL.val run_assign rfl rfl (WL.nil (W.ret (bodyQ.r1 (v := .bool _) Tryz.results40 rfl ?_)))))
   refine ⟨⟨_, rfl, ?_⟩, h⟩
   unfold allowP
   simp only [hal, false_or]
   first
   | (exfalso; omega)
   | (refine iff_of_true trivial ?_; omega)
   | (refine iff_of_false (by decide) ?_; omega)
   | (rw [decide_eq_true_iff]; omega)
  refine W.skip (W.seq (W.region (WL.val run_assign rfl rfl (WL.nil (W.ret (bodyQ.r1 (v := .bool _) Tryz.results40 rfl ?_))))))
  refine ⟨⟨_, rfl, ?_⟩, h⟩
  unfold allowP
  simp only [hal, false_or]
  first
  | (exfalso; omega)
  | (refine iff_of_true trivial ?_; omega)
  | (refine iff_of_false (by decide) ?_; omega)
  | (rw [decide_eq_true_iff]; omega)

end Go.Proofs.YtdpakoefdpmebaaGreat
