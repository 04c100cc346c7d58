/-
  Texts of a proof as one.
-/
import Derived.Test.YtjfmjbmkkpkppaaGreatDoorTopStreamsFQ2
import Derived.Test.YtjfmjbmkkpkppaaGreatDoorTopStreamsFQ1
import Derived.Lib.Bytealg
import Derived.Lib.IndexMore
import Derived.Lib.Strings
import Derived.Lib.ParseIntB
import Derived.Lib.Split
import Derived.Lib.ItoaNum
set_option linter.unusedVariables false
set_option linter.unusedSimpArgs false
namespace Go.Proofs.YtjfmjbmkkpkppaaGreatDoor
open Go.Proofs.Tryz
open Go Go.Sl Go.Sl.BitM Go.Sl.SpM Go.Sl.RsM Go.Sl.ByM Go.Sl.UnM Go.Sl.TpM
set_option maxHeartbeats 1000000
set_option maxRecDepth 8000
variable {W0 w : World} {L F : List HProp}
theorem pknown_ok {op : Nat} (h : On W0 L w) : Calls Tryz.prog 39 #[.int .i64 (op : Int)] w (Ret fun v w' => v = .bool (knownOp op) ∧ On W0 L w') := by
 refine enter func39 rfl ntmps39 rfl (W.sr (WL.z (W.seq (W.sr ?_))))
 refine WL.m (WL.nil (W.block (W.seq (W.sr (WL.v (run_eql rfl rfl) (WL.a ?_))))))
 refine WL.nil ?_
 refine W.condIf rfl (fun c4 => ?_) (fun c4 => ?_)
 ·
  refine W.skip ?_
  refine W.condIf rfl (fun c43 => ?_) (fun c43 => ?_)
  ·
   refine W.sr (WL.z (W.ret (bodyQ.r1 (v := .bool _) results39 rfl ?_)))
   exact ⟨congrArg Value.bool (by first | (have e : knownOp op = true := by simp only [knownOp, Bool.or_eq_true, decide_eq_true_eq]; omega); exact e.symm | (have e : knownOp op = false := by simp only [knownOp, Bool.or_eq_false_iff, decide_eq_false_iff_not]; omega); exact e.symm), h⟩
  refine W.skip (W.sr (WL.z (W.ret (bodyQ.r1 (v := .bool _) results39 rfl ?_))))
  exact ⟨congrArg Value.bool (by first | (have e : knownOp op = true := by simp only [knownOp, Bool.or_eq_true, decide_eq_true_eq]; omega); exact e.symm | (have e : knownOp op = false := by simp only [knownOp, Bool.or_eq_false_iff, decide_eq_false_iff_not]; omega); exact e.symm), h⟩
 refine W.sr (WL.v (run_eql rfl rfl) (WL.z ?_))
 refine W.condIf rfl (fun c7 => ?_) (fun c7 => ?_)
 ·
  refine W.skip ?_
  refine W.condIf rfl (fun c43 => ?_) (fun c43 => ?_)
  ·
   refine W.sr (WL.z (W.ret (bodyQ.r1 (v := .bool _) results39 rfl ?_)))
   exact ⟨congrArg Value.bool (by first | (have e : knownOp op = true := by simp only [knownOp, Bool.or_eq_true, decide_eq_true_eq]; omega); exact e.symm | (have e : knownOp op = false := by simp only [knownOp, Bool.or_eq_false_iff, decide_eq_false_iff_not]; omega); exact e.symm), h⟩
  refine W.skip (W.sr (WL.z (W.ret (bodyQ.r1 (v := .bool _) results39 rfl ?_))))
  exact ⟨congrArg Value.bool (by first | (have e : knownOp op = true := by simp only [knownOp, Bool.or_eq_true, decide_eq_true_eq]; omega); exact e.symm | (have e : knownOp op = false := by simp only [knownOp, Bool.or_eq_false_iff, decide_eq_false_iff_not]; omega); exact e.symm), h⟩
 refine W.sr (WL.v (run_eql rfl rfl) (WL.z ?_))
 refine W.condIf rfl (fun c10 => ?_) (fun c10 => ?_)
 ·
  refine W.skip ?_
  refine W.condIf rfl (fun c43 => ?_) (fun c43 => ?_)
  ·
   refine W.sr (WL.z (W.ret (bodyQ.r1 (v := .bool _) results39 rfl ?_)))
   exact ⟨congrArg Value.bool (by first | (have e : knownOp op = true := by simp only [knownOp, Bool.or_eq_true, decide_eq_true_eq]; omega); exact e.symm | (have e : knownOp op = false := by simp only [knownOp, Bool.or_eq_false_iff, decide_eq_false_iff_not]; omega); exact e.symm), h⟩
  refine W.skip (W.sr (WL.z (W.ret (bodyQ.r1 (v := .bool _) results39 rfl ?_))))
  exact ⟨congrArg Value.bool (by first | (have e : knownOp op = true := by simp only [knownOp, Bool.or_eq_true, decide_eq_true_eq]; omega); exact e.symm | (have e : knownOp op = false := by simp only [knownOp, Bool.or_eq_false_iff, decide_eq_false_iff_not]; omega); exact e.symm), h⟩
 refine W.sr (WL.v (run_eql rfl rfl) (WL.z ?_))
 refine W.condIf rfl (fun c13 => ?_) (fun c13 => ?_)
 ·
  refine W.skip ?_
  refine W.condIf rfl (fun c43 => ?_) (fun c43 => ?_)
  ·
   refine W.sr (WL.z (W.ret (bodyQ.r1 (v := .bool _) results39 rfl ?_)))
   exact ⟨congrArg Value.bool (by first | (have e : knownOp op = true := by simp only [knownOp, Bool.or_eq_true, decide_eq_true_eq]; omega); exact e.symm | (have e : knownOp op = false := by simp only [knownOp, Bool.or_eq_false_iff, decide_eq_false_iff_not]; omega); exact e.symm), h⟩
  refine W.skip (W.sr (WL.z (W.ret (bodyQ.r1 (v := .bool _) results39 rfl ?_))))
  exact ⟨congrArg Value.bool (by first | (have e : knownOp op = true := by simp only [knownOp, Bool.or_eq_true, decide_eq_true_eq]; omega); exact e.symm | (have e : knownOp op = false := by simp only [knownOp, Bool.or_eq_false_iff, decide_eq_false_iff_not]; omega); exact e.symm), h⟩
 refine W.sr (WL.v (run_eql rfl rfl) (WL.z ?_))
 refine W.condIf rfl (fun c16 => ?_) (fun c16 => ?_)
 ·
  refine W.skip ?_
  refine W.condIf rfl (fun c43 => ?_) (fun c43 => ?_)
  ·
   refine W.sr (WL.z (W.ret (bodyQ.r1 (v := .bool _) results39 rfl ?_)))
   exact ⟨congrArg Value.bool (by first | (have e : knownOp op = true := by simp only [knownOp, Bool.or_eq_true, decide_eq_true_eq]; omega); exact e.symm | (have e : knownOp op = false := by simp only [knownOp, Bool.or_eq_false_iff, decide_eq_false_iff_not]; omega); exact e.symm), h⟩
  refine W.skip (W.sr (WL.z (W.ret (bodyQ.r1 (v := .bool _) results39 rfl ?_))))
  exact ⟨congrArg Value.bool (by first | (have e : knownOp op = true := by simp only [knownOp, Bool.or_eq_true, decide_eq_true_eq]; omega); exact e.symm | (have e : knownOp op = false := by simp only [knownOp, Bool.or_eq_false_iff, decide_eq_false_iff_not]; omega); exact e.symm), h⟩
 refine W.sr (WL.v (run_eql rfl rfl) (WL.z ?_))
 refine W.condIf rfl (fun c19 => ?_) (fun c19 => ?_)
 ·
  refine W.skip ?_
  refine W.condIf rfl (fun c43 => ?_) (fun c43 => ?_)
  ·
   refine W.sr (WL.z (W.ret (bodyQ.r1 (v := .bool _) results39 rfl ?_)))
   exact ⟨congrArg Value.bool (by first | (have e : knownOp op = true := by simp only [knownOp, Bool.or_eq_true, decide_eq_true_eq]; omega); exact e.symm | (have e : knownOp op = false := by simp only [knownOp, Bool.or_eq_false_iff, decide_eq_false_iff_not]; omega); exact e.symm), h⟩
  refine W.skip (W.sr (WL.z (W.ret (bodyQ.r1 (v := .bool _) results39 rfl ?_))))
  exact ⟨congrArg Value.bool (by first | (have e : knownOp op = true := by simp only [knownOp, Bool.or_eq_true, decide_eq_true_eq]; omega); exact e.symm | (have e : knownOp op = false := by simp only [knownOp, Bool.or_eq_false_iff, decide_eq_false_iff_not]; omega); exact e.symm), h⟩
 refine W.sr (WL.v (run_eql rfl rfl) (WL.z ?_))
 refine W.condIf rfl (fun c22 => ?_) (fun c22 => ?_)
 ·
  refine W.skip ?_
  refine W.condIf rfl (fun c43 => ?_) (fun c43 => ?_)
  ·
   refine W.sr (WL.z (W.ret (bodyQ.r1 (v := .bool _) results39 rfl ?_)))
   exact ⟨congrArg Value.bool (by first | (have e : knownOp op = true := by simp only [knownOp, Bool.or_eq_true, decide_eq_true_eq]; omega); exact e.symm | (have e : knownOp op = false := by simp only [knownOp, Bool.or_eq_false_iff, decide_eq_false_iff_not]; omega); exact e.symm), h⟩
  refine W.skip (W.sr (WL.z (W.ret (bodyQ.r1 (v := .bool _) results39 rfl ?_))))
  exact ⟨congrArg Value.bool (by first | (have e : knownOp op = true := by simp only [knownOp, Bool.or_eq_true, decide_eq_true_eq]; omega); exact e.symm | (have e : knownOp op = false := by simp only [knownOp, Bool.or_eq_false_iff, decide_eq_false_iff_not]; omega); exact e.symm), h⟩
 refine W.sr (WL.v (run_eql rfl rfl) (WL.z ?_))
 refine W.condIf rfl (fun c25 => ?_) (fun c25 => ?_)
 ·
  refine W.skip ?_
  refine W.condIf rfl (fun c43 => ?_) (fun c43 => ?_)
  ·
   refine W.sr (WL.z (W.ret (bodyQ.r1 (v := .bool _) results39 rfl ?_)))
   exact ⟨congrArg Value.bool (by first | (have e : knownOp op = true := by simp only [knownOp, Bool.or_eq_true, decide_eq_true_eq]; omega); exact e.symm | (have e : knownOp op = false := by simp only [knownOp, Bool.or_eq_false_iff, decide_eq_false_iff_not]; omega); exact e.symm), h⟩
  refine W.skip (W.sr (WL.z (W.ret (bodyQ.r1 (v := .bool _) results39 rfl ?_))))
  exact ⟨congrArg Value.bool (by first | (have e : knownOp op = true := by simp only [knownOp, Bool.or_eq_true, decide_eq_true_eq]; omega); exact e.symm | (have e : knownOp op = false := by simp only [knownOp, Bool.or_eq_false_iff, decide_eq_false_iff_not]; omega); exact e.symm), h⟩
 refine W.sr (WL.v (run_eql rfl rfl) (WL.z ?_))
 refine W.condIf rfl (fun c28 => ?_) (fun c28 => ?_)
 ·
  refine W.skip ?_
  refine W.condIf rfl (fun c43 => ?_) (fun c43 => ?_)
  ·
   refine W.sr (WL.z (W.ret (bodyQ.r1 (v := .bool _) results39 rfl ?_)))
   exact ⟨congrArg Value.bool (by first | (have e : knownOp op = true := by simp only [knownOp, Bool.or_eq_true, decide_eq_true_eq]; omega); exact e.symm | (have e : knownOp op = false := by simp only [knownOp, Bool.or_eq_false_iff, decide_eq_false_iff_not]; omega); exact e.symm), h⟩
  refine W.skip (W.sr (WL.z (W.ret (bodyQ.r1 (v := .bool _) results39 rfl ?_))))
  exact ⟨congrArg Value.bool (by first | (have e : knownOp op = true := by simp only [knownOp, Bool.or_eq_true, decide_eq_true_eq]; omega); exact e.symm | (have e : knownOp op = false := by simp only [knownOp, Bool.or_eq_false_iff, decide_eq_false_iff_not]; omega); exact e.symm), h⟩
 refine W.sr (WL.v (run_eql rfl rfl) (WL.z ?_))
 refine W.condIf rfl (fun c31 => ?_) (fun c31 => ?_)
 ·
  refine W.skip ?_
  refine W.condIf rfl (fun c43 => ?_) (fun c43 => ?_)
  ·
   refine W.sr (WL.z (W.ret (bodyQ.r1 (v := .bool _) results39 rfl ?_)))
   exact ⟨congrArg Value.bool (by first | (have e : knownOp op = true := by simp only [knownOp, Bool.or_eq_true, decide_eq_true_eq]; omega); exact e.symm | (have e : knownOp op = false := by simp only [knownOp, Bool.or_eq_false_iff, decide_eq_false_iff_not]; omega); exact e.symm), h⟩
  refine W.skip (W.sr (WL.z (W.ret (bodyQ.r1 (v := .bool _) results39 rfl ?_))))
  exact ⟨congrArg Value.bool (by first | (have e : knownOp op = true := by simp only [knownOp, Bool.or_eq_true, decide_eq_true_eq]; omega); exact e.symm | (have e : knownOp op = false := by simp only [knownOp, Bool.or_eq_false_iff, decide_eq_false_iff_not]; omega); exact e.symm), h⟩
 refine W.sr (WL.v (run_eql rfl rfl) (WL.z ?_))
 refine W.condIf rfl (fun c34 => ?_) (fun c34 => ?_)
 ·
  refine W.skip ?_
  refine W.condIf rfl (fun c43 => ?_) (fun c43 => ?_)
  ·
   refine W.sr (WL.z (W.ret (bodyQ.r1 (v := .bool _) results39 rfl ?_)))
   exact ⟨congrArg Value.bool (by first | (have e : knownOp op = true := by simp only [knownOp, Bool.or_eq_true, decide_eq_true_eq]; omega); exact e.symm | (have e : knownOp op = false := by simp only [knownOp, Bool.or_eq_false_iff, decide_eq_false_iff_not]; omega); exact e.symm), h⟩
  refine W.skip (W.sr (WL.z (W.ret (bodyQ.r1 (v := .bool _) results39 rfl ?_))))
  exact ⟨congrArg Value.bool (by first | (have e : knownOp op = true := by simp only [knownOp, Bool.or_eq_true, decide_eq_true_eq]; omega); exact e.symm | (have e : knownOp op = false := by simp only [knownOp, Bool.or_eq_false_iff, decide_eq_false_iff_not]; omega); exact e.symm), h⟩
 refine W.sr (WL.v (run_eql rfl rfl) (WL.z ?_))
 refine W.condIf rfl (fun c37 => ?_) (fun c37 => ?_)
 ·
  refine W.skip ?_
  refine W.condIf rfl (fun c43 => ?_) (fun c43 => ?_)
  ·
   refine W.sr (WL.z (W.ret (bodyQ.r1 (v := .bool _) results39 rfl ?_)))
   exact ⟨congrArg Value.bool (by first | (have e : knownOp op = true := by simp only [knownOp, Bool.or_eq_true, decide_eq_true_eq]; omega); exact e.symm | (have e : knownOp op = false := by simp only [knownOp, Bool.or_eq_false_iff, decide_eq_false_iff_not]; omega); exact e.symm), h⟩
  refine W.skip (W.sr (WL.z (W.ret (bodyQ.r1 (v := .bool _) results39 rfl ?_))))
  exact ⟨congrArg Value.bool (by first | (have e : knownOp op = true := by simp only [knownOp, Bool.or_eq_true, decide_eq_true_eq]; omega); exact e.symm | (have e : knownOp op = false := by simp only [knownOp, Bool.or_eq_false_iff, decide_eq_false_iff_not]; omega); exact e.symm), h⟩
 refine W.sr (WL.v (run_eql rfl rfl) (WL.z ?_))
 refine W.condIf rfl (fun c40 => ?_) (fun c40 => ?_)
 ·
  refine W.skip ?_
  refine W.condIf rfl (fun c43 => ?_) (fun c43 => ?_)
  ·
   refine W.sr (WL.z (W.ret (bodyQ.r1 (v := .bool _) results39 rfl ?_)))
   exact ⟨congrArg Value.bool (by first | (have e : knownOp op = true := by simp only [knownOp, Bool.or_eq_true, decide_eq_true_eq]; omega); exact e.symm | (have e : knownOp op = false := by simp only [knownOp, Bool.or_eq_false_iff, decide_eq_false_iff_not]; omega); exact e.symm), h⟩
  refine W.skip (W.sr (WL.z (W.ret (bodyQ.r1 (v := .bool _) results39 rfl ?_))))
  exact ⟨congrArg Value.bool (by first | (have e : knownOp op = true := by simp only [knownOp, Bool.or_eq_true, decide_eq_true_eq]; omega); exact e.symm | (have e : knownOp op = false := by simp only [knownOp, Bool.or_eq_false_iff, decide_eq_false_iff_not]; omega); exact e.symm), h⟩
 refine W.region (WL.v (run_eql rfl rfl) (WL.z ?_))
 refine W.condIf rfl (fun c43 => ?_) (fun c43 => ?_)
 ·
  refine W.sr (WL.z (W.ret (bodyQ.r1 (v := .bool _) results39 rfl ?_)))
  exact ⟨congrArg Value.bool (by first | (have e : knownOp op = true := by simp only [knownOp, Bool.or_eq_true, decide_eq_true_eq]; omega); exact e.symm | (have e : knownOp op = false := by simp only [knownOp, Bool.or_eq_false_iff, decide_eq_false_iff_not]; omega); exact e.symm), h⟩
 refine W.skip (W.sr (WL.z (W.ret (bodyQ.r1 (v := .bool _) results39 rfl ?_))))
 exact ⟨congrArg Value.bool (by first | (have e : knownOp op = true := by simp only [knownOp, Bool.or_eq_true, decide_eq_true_eq]; omega); exact e.symm | (have e : knownOp op = false := by simp only [knownOp, Bool.or_eq_false_iff, decide_eq_false_iff_not]; omega); exact e.symm), h⟩
theorem pencode_ok {p : Pd} {ad : Option Addr} {cd : Nat} (hok : okPd p) (h : On W0 L w) (C : Gives L (Bytes (.slice ad p.data.length cd) p.data)) : Calls Tryz.prog 10 #[.agg (Pd.cells p (.slice ad p.data.length cd)).toArray] w (Ret fun v w' => ∃ a, v = .tuple #[.slice a (encP p).length (encP p).length, .int .i64 0] ∧ On W0 (OwnB (.slice a (encP p).length (encP p).length) (encP p) :: L) w') := by
 refine enter func10 rfl ntmps10 rfl ?_
 have hmx := maxLen_eq
 obtain ⟨⟨hc16, hkn, hfl, hst⟩, hdl, hnm⟩ := hok
 have hcl : ((Pd.cells p (.slice ad p.data.length cd))).length = 27 := by unfold Pd.cells; rw [List.length_append, List.length_append, bytesV, List.length_map, hc16]; rfl
 refine W.sr (WL.e (eff_box (v := .agg (Pd.cells p (.slice ad p.data.length cd)).toArray) (l := (Pd.cells p (.slice ad p.data.length cd))) h rfl rfl) ?_)
 rintro _ w ⟨b1, rfl, h⟩
 refine WL.a (WL.z (W.seq (W.block (W.seq (W.sr ?_)))))
 refine WL.f 0 underlying36 rfl sizeOf3 rfl rfl (WL.l isAgg3 rfl (h.cellB (cells0 _ _)) (WL.e (eff_call call39 (pknown_ok h)) ?_))
 rintro _ w ⟨hv, h⟩
 rw [hkn] at hv
 subst hv
 refine WL.v (run_not rfl) (WL.z (W.cf (W.sr (WL.f 2 underlying36 rfl sizeOf3 rfl rfl (WL.l isAgg3 rfl (h.cellB (cells2 _ _)) ?_)))))
 refine WL.v (run_lssF rfl rfl (by omega)) (WL.m (WL.f 2 underlying36 rfl sizeOf3 rfl rfl (WL.l isAgg3 rfl (h.cellB (cells2 _ _)) (WL.v (run_geqF rfl rfl (by omega)) (WL.pf (WL.z ?_))))))
 refine W.cf (W.region (WL.f 3 underlying36 rfl sizeOf3 rfl rfl (WL.l isAgg3 rfl (h.cellB (cells3 _ _)) (WL.v (run_lssF rfl rfl (by omega)) (WL.m (WL.f 3 underlying36 rfl sizeOf3 rfl rfl (WL.l isAgg3 rfl (h.cellB (cells3 _ _)) ?_)))))))
 refine WL.v (run_gtrF rfl rfl (by omega)) (WL.pf (WL.z (W.cf (W.sr (WL.f 26 underlying36 rfl sizeOf26 rfl rfl ?_)))))
 refine WL.l isAgg26 rfl (h.cellB (cells_data hc16)) (WL.v (run_lenSlice underlying26 rfl) (WL.v (run_gtrF rfl rfl (by omega)) (WL.z (W.cs (W.seq ?_)))))
 refine W.region (WL.f 2 underlying36 rfl sizeOf3 rfl rfl (WL.l isAgg3 rfl (h.cellB (cells2 _ _)) (WL.v (run_convByte underlying3 underlying5 rfl) (WL.z ?_))))
 refine W.cut (fun env w => ∃ (j : Env), env = mkE j [(1, .pointer (some ⟨b1, 0, none⟩)), (4, .int .u8 ((UInt8.ofNat (flagM p)).toNat : Int))] ∧ On W0 (blk b1 (Pd.cells p (.slice ad p.data.length cd)) 36 :: L) w) ?_ ?_
 ·
  refine W.sr (WL.f 1 underlying36 rfl sizeOf4 rfl rfl (WL.l isAgg4 rfl (h.cellB (cells1 _ _)) (WL.nil ?_)))
  refine W.condB rfl (fun c19 => ?_) (fun c19 => ?_)
  ·
   refine W.region (WL.m (WL.v (run_orN (k := .u8) (m := (UInt8.ofNat p.flags).toNat) (n := 128) rfl rfl (Int.ofNat_le.2 (show _ ≤ 255 by have := (UInt8.ofNat p.flags).toNat_lt; omega)) (by decide) (Int.ofNat_le.2 (show _ ≤ 255 by rw [flag_or hfl]; have := (UInt8.ofNat (p.flags + 128)).toNat_lt; omega))) (WL.z ?_)))
   have e : (UInt8.ofNat p.flags).toNat ||| 128 = (UInt8.ofNat (flagM p)).toNat := by unfold flagM; rw [c19]; exact flag_or hfl
   exact ⟨_, mkE_of ⟨rfl, congrArg (fun q : Nat => Value.int .u8 (q : Int)) e, trivial⟩, h⟩
  refine W.skip ?_
  have e : p.flags = flagM p := by unfold flagM; rw [c19]; rfl
  exact ⟨_, mkE_of ⟨rfl, congrArg (fun q : Nat => Value.int .u8 ((UInt8.ofNat q).toNat : Int)) e, trivial⟩, h⟩
 rintro env w ⟨j, rfl, h⟩
 refine W.sr (WL.f 0 underlying36 rfl sizeOf3 rfl rfl (WL.l isAgg3 rfl (h.cellB (cells0 _ _)) (WL.v (run_convByte underlying3 underlying5 rfl) (WL.m (WL.f 3 underlying36 rfl sizeOf3 rfl rfl (WL.l isAgg3 rfl (h.cellB (cells3 _ _)) ?_))))))
 refine WL.v (run_convByte underlying3 underlying5 rfl) (WL.e (eff_mkRow (out := bytesV [UInt8.ofNat p.op, UInt8.ofNat (flagM p), UInt8.ofNat p.st, 0]) h underlying26 sizeOf5 zeroValue5 rfl (by decide) rfl rfl rfl) ?_)
 rintro _ w ⟨b49, rfl, h⟩
 refine WL.f 26 underlying36 rfl sizeOf26 rfl rfl (WL.l isAgg26 rfl (h.cellB (cells_data hc16)) (WL.v (run_lenSlice underlying26 rfl) (WL.v (run_convIn underlying3 underlying27 rfl (by show (0 : Int) ≤ _; omega) (by show _ ≤ (18446744073709551615 : Int); omega)) (WL.e (eff_call call38 (bput_ok (bs := [UInt8.ofNat p.op, UInt8.ofNat (flagM p), UInt8.ofNat p.st, 0]) (v := p.data.length) (n := 4) h (Gives.ownO (v := .slice (some ⟨b49, 0, none⟩) 4 4)) (by decide) (by decide) (by omega) (show (4 : Nat) ≤ _ by decide))) ?_))))
 rintro _ w ⟨a54, hv, h⟩
 have e8 : [UInt8.ofNat p.op, UInt8.ofNat (flagM p), UInt8.ofNat p.st, 0] ++ be p.data.length 4 = (headK p 0) := by unfold headK; simp [head8]
 rw [e8] at hv h
 subst hv
 refine WL.z (W.seq (W.sr (WL.f 4 underlying36 rfl sizeOf24 rfl rfl (WL.l isAgg24 rfl (h.cellB (cells4 _ _)) (WL.f 5 underlying36 rfl sizeOf24 rfl rfl ?_)))))
 refine WL.l isAgg24 rfl (h.cellB (cells5 _ _)) (WL.f 6 underlying36 rfl sizeOf24 rfl rfl (WL.l isAgg24 rfl (h.cellB (cells6 _ _)) (WL.f 7 underlying36 rfl sizeOf24 rfl rfl (WL.l isAgg24 rfl (h.cellB (cells7 _ _)) (WL.f 8 underlying36 rfl sizeOf24 rfl rfl (WL.l isAgg24 rfl (h.cellB (cells8 _ _)) (WL.f 9 underlying36 rfl sizeOf24 rfl rfl ?_)))))))
 refine WL.l isAgg24 rfl (h.cellB (cells9 _ _)) (WL.e (eff_mkRow (out := ((nums p).map (fun v : Nat => Value.int .u32 (v : Int)))) h underlying87 sizeOf24 zeroValue24 rfl (by decide) rfl rfl rfl) ?_)
 rintro _ w ⟨b67, rfl, h⟩
 refine WL.v (run_lenSlice underlying87 rfl) (WL.m (WL.nil (W.block ?_)))
 refine W.loop (fun (k : Nat) env w => k ≤ 6 ∧ ∃ (j : Env) (ao : Option Addr) (co : Nat), env = mkE j [(1, .pointer (some ⟨b1, 0, none⟩)), (5, .slice ao (headK p k).length co), (67, .slice (some ⟨b67, 0, none⟩) 6 6), (68, .int .i64 6), (69, .int .i64 (k : Int))] ∧ On W0 (OwnB (.slice ao (headK p k).length co) (headK p k) :: Own 1 (.slice (some ⟨b67, 0, none⟩) 6 6) 6 ((nums p).map (fun v : Nat => Value.int .u32 (v : Int))) :: blk b1 (Pd.cells p (.slice ad p.data.length cd)) 36 :: L) w) (fun k => 6 - k) (0) ?_ ?_
 · exact ⟨by decide, _, a54, _, mkE_of ⟨rfl, rfl, rfl, rfl, rfl, trivial⟩, h.to⟩
 rintro k env w ⟨hk, j, ao, co, rfl, h⟩
 have hkl := headK_len p k hk
 refine W.sr (WL.v (run_lss rfl rfl) (WL.nil (W.seq ?_)))
 refine W.condIf rfl (fun c27 => ?_) (fun c27 => ?_)
 ·
  refine W.skip (W.seq ?_)
  have hk6 : k < 6 := by omega
  have hv_ := nums_some p hk6
  obtain ⟨v, hv⟩ := hv_
  have hs := headK_succ hv
  have hvl := hnm v (List.mem_of_getElem? hv)
  refine W.block (W.sr (WL.v (run_indexAddr underlying87 sizeOf24 rfl rfl (by omega) (by omega)) (WL.l isAgg24 rfl ((h.cellsO (v := .slice (some ⟨b67, 0, none⟩) 6 6)).elem (i := k) (vs := [.int .u32 (v : Int)]) hk6 (nums_row hv) 0 _ rfl) (WL.z (W.region ?_)))))
  refine WL.m (WL.m (WL.v (run_convIn underlying24 underlying27 rfl (by show (0 : Int) ≤ _; omega) (by show _ ≤ (18446744073709551615 : Int); omega)) (WL.e (eff_call call38 (bput_ok (bs := (headK p k)) (v := v) (n := 4) h (Gives.ownO (v := .slice ao (headK p k).length co)) (by decide) (by decide) (by omega) (by omega))) ?_)))
  rintro _ w ⟨a76, rfl, h⟩
  refine WL.z (W.region (WL.v (run_incN rfl rfl (by omega)) (WL.m (WL.nil ?_))))
  rw [← hs] at h
  exact ⟨k + 1, ⟨by omega, _, a76, _, mkE_of ⟨rfl, congrArg (fun q : List UInt8 => Value.slice a76 q.length q.length) hs.symm, rfl, rfl, rfl, trivial⟩, h.to⟩, by show 6 - (k + 1) < 6 - k; omega⟩
 refine W.exit (W.seq ?_)
 have ob_ : k = 6 := by omega
 obtain rfl := ob_
 have h48 := head48_len hc16
 have ehb : bytesV (headK p 6) ++ bytesV p.cdb = bytesV (head48 p) := by unfold head48; simp [bytesV]
 refine W.region (WL.m (WL.f 10 underlying36 rfl sizeOf34 rfl rfl (WL.v (run_cutArr underlying34 sizeOf5 rfl) (WL.e (eff_app (c2 := 16) (bytes := 1) h rfl rfl (h.reads (Gives.part (b := b1) (o := 0 + 10) (n := 16) (cells_cdb hc16) (by rw [hcl]; decide) (by decide))) underlying26 rfl rfl rfl rfl rfl (by omega) (by omega) bytes_one) ?_))))
 rintro _ w ⟨a81, c81, hv81, h⟩
 rw [ehb] at h
 have e48 : (headK p 6).length + 16 = (head48 p).length := by omega
 rw [e48] at hv81 h
 subst hv81
 refine WL.z (W.sr (WL.m (WL.m (WL.e (eff_call call40 (plow_ok (bs := head48 p) h (Gives.ownO (v := .slice a81 (head48 p).length c81)))) ?_))))
 rintro _ w ⟨a84, rfl, h⟩
 refine WL.e (eff_app (c2 := 4) (bytes := 1) (h.own (.slice a81 (head48 p).length c81)) rfl rfl (h.cellsO (v := .slice a84 4 4)) underlying26 rfl rfl rfl rfl rfl (by omega) (by omega) bytes_one) ?_
 rintro _ w ⟨a85, c85, hv85, h⟩
 have e52 : bytesV (head48 p) ++ bytesV (ByM.four (crcS (head48 p))) = bytesV (hs52 p) := by unfold hs52; simp [bytesV]
 have l52 := hs52_len hc16
 have e53 : (head48 p).length + 4 = (hs52 p).length := by omega
 rw [e52, e53] at h
 rw [e53] at hv85
 subst hv85
 refine WL.z ?_
 refine W.cut (fun env w => ∃ (j : Env) (ao : Option Addr) (co : Nat), env = mkE j [(5, .slice ao (encP p).length co)] ∧ On W0 (OwnB (.slice ao (encP p).length co) (encP p) :: L) w) ?_ ?_
 ·
  refine W.sr (WL.f 26 underlying36 rfl sizeOf26 rfl rfl (WL.l isAgg26 rfl (h.cellB (cells_data hc16)) (WL.v (run_lenSlice underlying26 rfl) (WL.v (run_gtr rfl rfl) (WL.nil ?_)))))
  refine W.condIf rfl (fun c37 => ?_) (fun c37 => ?_)
  ·
   refine W.sr (WL.f 26 underlying36 rfl sizeOf26 rfl rfl (WL.l isAgg26 rfl (h.cellB (cells_data hc16)) (WL.e (eff_call call41 (padQ_ok (bs := p.data) (by omega) h (Gives.to C))) ?_)))
   rintro _ w ⟨a92, rfl, h⟩
   have hpd := padM_len p.data
   refine WL.z (W.region (WL.m (WL.m (WL.m (WL.e (eff_call call40 (plow_ok (bs := padM p.data) h (Gives.ownO (v := .slice a92 (padM p.data).length (padM p.data).length)))) ?_)))))
   rintro _ w ⟨a96, rfl, h⟩
   refine WL.e (eff_mkSlice (zl := [.slice none 0 0, .slice none 0 0, .slice none 0 0]) (out := [.slice _ _ _, .slice _ _ _, .slice _ _ _]) h underlying64 sizeOf26 zeroValue26 (by decide) (by kernel_rfl) rfl rfl (by simp) (⟨⟨_, _, rfl, rfl, by decide⟩, ⟨⟨_, _, rfl, rfl, by decide⟩, ⟨⟨_, _, rfl, rfl, by decide⟩, trivial⟩⟩⟩) rfl rfl (by simp [maxLen])) ?_
   rintro _ w ⟨b97, rfl, h⟩
   refine WL.e (eff_call call42 (cat_ok (rows := [(a85, c85, hs52 p), (a92, (padM p.data).length, padM p.data), (a96, 4, ByM.four (crcS (padM p.data)))]) (by show (hs52 p ++ (padM p.data ++ (ByM.four (crcS (padM p.data)) ++ []))).length ≤ _; rw [List.length_append, List.length_append, List.length_append, ByM.four_length]; show _ + (_ + (4 + 0)) ≤ _; omega) h (Gives.ownO (v := .slice (some ⟨b97, 0, none⟩) 3 3)) (cat3 (Gives.ownO (v := .slice a85 (hs52 p).length c85)) (Gives.ownO (v := .slice a92 (padM p.data).length (padM p.data).length)) (Gives.ownO (v := .slice a96 4 4))))) ?_
   rintro _ w ⟨a98, c98, rfl, h⟩
   refine WL.z ?_
   have ec : ([(a85, c85, hs52 p), (a92, (padM p.data).length, padM p.data), (a96, 4, ByM.four (crcS (padM p.data)))] : List BX).flatMap BX.b = encP p := by rw [encP_cons (by omega)]; simp [BX.b]
   rw [ec] at h
   exact ⟨_, a98, c98, mkE_of ⟨congrArg (fun q : List UInt8 => Value.slice a98 q.length c98) ec, trivial⟩, h.to⟩
  refine W.skip ?_
  have ec := encP_nil (p := p) (by omega)
  rw [← ec] at h
  exact ⟨_, a85, c85, mkE_of ⟨congrArg (fun q : List UInt8 => Value.slice a85 q.length c85) ec.symm, trivial⟩, h.to⟩
 clear h
 rintro env w ⟨j, ao, co, rfl, h⟩
 refine W.sr (WL.m (WL.e (eff_call call43 (clip_bytes h)) ?_))
 rintro _ w ⟨rfl, h⟩
 refine WL.a (WL.z (W.ret (bodyQ.r2 (v1 := .slice _ _ _) (v2 := .int .i64 _) results10 rfl rfl ?_)))
 exact ⟨ao, rfl, h⟩
theorem bgetE_ok {ax : Option Addr} {cx : Nat} {bs : List UInt8} {p n : Nat} (hn1 : 1 ≤ n) (hn8 : n ≤ 8) (h : On W0 L w) (C : Gives L (Bytes (.slice ax bs.length cx) bs)) : Calls Tryz.prog 52 #[.slice ax bs.length cx, .int .i64 (p : Int), .int .i64 (n : Int)] w (Ret fun v w' => ∃ (z : Nat) (ok : Bool), (p + n ≤ bs.length → z = beV ((bs.drop p).take n)) ∧ v = .tuple #[.int .u64 (z : Int), .bool ok] ∧ On W0 L w') :=
 (bget_ok (at_ := (p : Int)) (n := (n : Int)) h C).mono fun e w' he => by
   obtain ⟨v, he, hg⟩ := he
   refine ⟨v, he, ?_⟩
   rcases hg with ⟨hok, hv, h⟩ | ⟨hok, hv, h⟩
   · exact ⟨_, true, fun _ => rfl, hv, h⟩
   exact ⟨0, false, fun h8 => (hok (by omega)).elim, hv, h⟩
theorem front_ok {ax : Option Addr} {cx : Nat} {bs : List UInt8} (hb : bs.length ≤ 1000000) (h : On W0 L w) (C : Gives L (Bytes (.slice ax bs.length cx) bs)) : Calls Tryz.prog 48 #[.slice ax bs.length cx] w (Ret fun v w' => (frontE bs ≠ 0 ∧ v = .tuple #[.agg (Pd.cells zPd (.slice none 0 0)).toArray, .int .i64 0, .int .i64 (frontE bs : Int)] ∧ On W0 L w') ∨ (frontE bs = 0 ∧ 52 ≤ bs.length ∧ v = .tuple #[.agg (Pd.cells (getP bs) (.slice none 0 0)).toArray, .int .i64 (dataN bs : Int), .int .i64 0] ∧ On W0 L w')) := by
 refine enter func48 rfl ntmps48 rfl ?_
 have hmx := maxLen_eq
 have hbd := (h.readsTo C).bounds
 obtain ⟨hbc, hbm⟩ := hbd
 have hdl := dataN_lt bs
 refine W.sr (WL.e (eff_alloc h zeroValue36 rfl) ?_)
 rintro _ w ⟨b2, rfl, h⟩
 have h : On W0 (blk b2 (Pd.cells zPd (.slice none 0 0)) 36 :: L) w := h
 refine WL.a (WL.z (W.sr (WL.m (WL.e (eff_call call52 (bgetE_ok (p := 4) (n := 4) (bs := bs) (by decide) (by decide) h (Gives.to C))) ?_))))
 rintro _ w ⟨z, ok14, hz14, rfl, h⟩
 refine WL.m (WL.v (run_extract rfl rfl) (WL.v (run_extract rfl rfl) (WL.a (WL.z (W.seq (W.block ?_))))))
 refine W.sr (WL.m (WL.v (run_lenSlice underlying26 rfl) (WL.v (run_lss rfl rfl) (WL.z ?_))))
 refine W.condIf rfl (fun c4 => ?_) (fun c4 => ?_)
 ·
  refine W.sr ?_
  refine WL.v (run_buildS (pl := qp2) (out := qv1) underlying36 zeroValue36 (fun w => by kernel_rfl) rfl (trivial) rfl) ?_
  refine WL.e (eff_storeW (vs := qv1) h sizeOf36 rfl rfl rfl rfl rfl) ?_
  rintro _ w h
  refine WL.a (WL.z (W.ret ?_))
  refine bodyQ.rcttB (vs := qv1) (v2 := .int .i64 _) (v3 := .int .i64 _) h results48 isAgg36 sizeOf36 rfl rfl rfl rfl rfl ?_
  exact .inl ⟨by rw [front3 (by omega)]; decide, by rw [front3 (by omega)]; rfl, h.to⟩
 refine W.seq ?_
 have hlen : ¬ bs.length < 52 := by omega
 have hzz : z = dataN bs := hz14 (by omega)
 subst hzz
 have ob_ : ∃ B, B = bs.take 48 := ⟨_, rfl⟩
 obtain ⟨B, hB⟩ := ob_
 have ob_ : ∃ T, T = (bs.drop 48).take 4 := ⟨_, rfl⟩
 obtain ⟨T, hT⟩ := ob_
 have hBl : B.length = 48 := by rw [hB, List.length_take]; omega
 have hTl : T.length = 4 := by rw [hT, List.length_take, List.length_drop]; omega
 have gB : Gives L (Bytes (.slice ax B.length cx) B) := by rw [hB]; exact front_bytes C (by omega)
 have hct := cut_bytes (l := 48) (h := 52) C hbc (by omega) (by omega)
 rw [show (bs.drop 48).take (52 - 48) = T from hT.symm] at hct
 obtain ⟨aT, cT, hcut, gT⟩ := hct
 refine W.draw Tryz.follows h (fun w h => ?_)
 refine WT.m 0 rfl (WT.p 1 rfl (fun w' => (run_cutHV (h := 48) underlying26 sizeOf5 rfl rfl (by omega) hBl.symm)) (WT.m 3 rfl (WT.p 4 rfl (fun w' => (run_cutLHV (l := 48) (h := 52) underlying26 sizeOf5 rfl rfl rfl (by omega) (by omega) hcut)) (WT.e 2 [] rfl (eff_call call40 (plow_ok (bs := B) h (Gives.to gB))) ?_))))
 rintro _ w ⟨a25, rfl, h⟩
 refine ⟨trivial, ?_⟩
 refine WT.e 5 [] rfl (eff_call call44 (equal_ok (bs := ByM.four (crcS B)) (cs := T) h (Gives.ownO (v := .slice a25 4 4)) (Gives.to gT))) ?_
 rintro _ w ⟨rfl, h⟩
 refine ⟨trivial, ?_⟩
 refine WT.p 6 rfl (fun w' => (run_notDec rfl)) (WT.a 7 rfl (WT.dn ?_))
 refine W.condIf rfl (fun c8 => ?_) (fun c8 => ?_)
 ·
  refine W.sr ?_
  refine WL.v (run_buildS (pl := qp2) (out := qv1) underlying36 zeroValue36 (fun w => by kernel_rfl) rfl (trivial) rfl) ?_
  refine WL.e (eff_storeW (vs := qv1) h sizeOf36 rfl rfl rfl rfl rfl) ?_
  rintro _ w h
  refine WL.a (WL.z (W.ret ?_))
  refine bodyQ.rcttB (vs := qv1) (v2 := .int .i64 _) (v3 := .int .i64 _) h results48 isAgg36 sizeOf36 rfl rfl rfl rfl rfl ?_
  rw [hB, hT] at c8
  exact .inl ⟨by rw [front4 hlen c8]; decide, by rw [front4 hlen c8]; rfl, h.to⟩
 refine W.seq ?_
 have h4 := Decidable.not_not.1 c8
 rw [hB, hT] at h4
 have ad_ := (h.readsTo C).addr (by omega)
 obtain ⟨ba, oa, hal⟩ := ad_
 subst hal
 have q0 := (bs.getD 0 0).toNat_lt
 have q1 := (bs.getD 1 0).toNat_lt
 have q2 := (bs.getD 2 0).toNat_lt
 refine W.region (WL.m (WL.v (run_indexAddr underlying26 sizeOf5 rfl rfl (by omega) (by omega)) (WL.l isAgg5 rfl ((h.readsTo C).elem (i := 0) (vs := [.int .u8 ((bs.getD 0 0).toNat : Int)]) (by omega) (getD_row (by omega)) 0 _ rfl) (WL.v (run_convInt64 underlying5 underlying3 rfl (by omega) (by omega)) (WL.e (eff_call call39 (pknown_ok (op := (bs.getD 0 0).toNat) h)) ?_)))))
 rintro _ w ⟨hv, h⟩
 have hcs := Bool.eq_false_or_eq_true (knownOp (bs.getD 0 0).toNat)
 rcases hcs with hkn | hkn <;> (rw [hkn] at hv; subst hv)
 ·
  refine WL.v (run_not rfl) (WL.m (WL.m (WL.v (run_indexAddr underlying26 sizeOf5 rfl rfl (by omega) (by omega)) (WL.l isAgg5 rfl ((h.readsTo C).elem (i := 3) (vs := [.int .u8 ((bs.getD 3 0).toNat : Int)]) (by omega) (getD_row (by omega)) 0 _ rfl) (WL.v (run_neq rfl rfl) (WL.pf (WL.a ?_)))))))
  refine WL.nil ?_
  refine W.condIf rfl (fun c12 => ?_) (fun c12 => ?_)
  ·
   refine W.sr ?_
   refine WL.v (run_buildS (pl := qp2) (out := qv1) underlying36 zeroValue36 (fun w => by kernel_rfl) rfl (trivial) rfl) ?_
   refine WL.e (eff_storeW (vs := qv1) h sizeOf36 rfl rfl rfl rfl rfl) ?_
   rintro _ w h
   refine WL.a (WL.z (W.ret ?_))
   refine bodyQ.rcttB (vs := qv1) (v2 := .int .i64 _) (v3 := .int .i64 _) h results48 isAgg36 sizeOf36 rfl rfl rfl rfl rfl ?_
   exact .inl ⟨by rw [front2 hlen h4 (.inr (by omega))]; decide, by rw [front2 hlen h4 (.inr (by omega))]; rfl, h.to⟩
  refine W.sr (WL.m (WL.v (run_gtr rfl rfl) (WL.z ?_)))
  refine W.condIf rfl (fun c16 => ?_) (fun c16 => ?_)
  ·
   refine W.sr ?_
   refine WL.v (run_buildS (pl := qp2) (out := qv1) underlying36 zeroValue36 (fun w => by kernel_rfl) rfl (trivial) rfl) ?_
   refine WL.e (eff_storeW (vs := qv1) h sizeOf36 rfl rfl rfl rfl rfl) ?_
   rintro _ w h
   refine WL.a (WL.z (W.ret ?_))
   refine bodyQ.rcttB (vs := qv1) (v2 := .int .i64 _) (v3 := .int .i64 _) h results48 isAgg36 sizeOf36 rfl rfl rfl rfl rfl ?_
   have h3 : ¬ (knownOp (bs.getD 0 0).toNat = false ∨ (bs.getD 3 0).toNat ≠ 0) := by rw [hkn]; rintro (e | e); cases e; omega
   exact .inl ⟨by rw [front5 hlen h4 h3 (by omega)]; decide, by rw [front5 hlen h4 h3 (by omega)]; rfl, h.to⟩
  refine W.skip (W.seq ?_)
  have h3 : ¬ (knownOp (bs.getD 0 0).toNat = false ∨ (bs.getD 3 0).toNat ≠ 0) := by rw [hkn]; rintro (e | e); cases e; omega
  have hfr := front0 hlen h4 h3 (by omega)
  have h16 : ((bs.drop 32).take 16).length = 16 := gpK_cdb bs 0 (by omega)
  have hx_ := exists16 h16
  obtain ⟨x0, x1, x2, x3, x4, x5, x6, x7, x8, x9, xa, xb, xc, xd, xe, xf, hX⟩ := hx_
  refine W.draw Tryz.follows h (fun w h => ?_)
  refine WT.m 0 rfl (WT.p 1 rfl (fun w' => (run_indexAddr underlying26 sizeOf5 rfl rfl (by omega) (by omega))) (WT.l 2 rfl isAgg5 rfl ((h.readsTo C).elem (i := 0) (vs := [.int .u8 ((bs.getD 0 0).toNat : Int)]) (by omega) (getD_row (by omega)) 0 _ rfl) (WT.p 3 rfl (fun w' => (run_convInt64 underlying5 underlying3 rfl (by omega) (by omega))) (WT.m 4 rfl (WT.p 5 rfl (fun w' => (run_indexAddr underlying26 sizeOf5 rfl rfl (by omega) (by omega))) (WT.l 6 rfl isAgg5 rfl ((h.readsTo C).elem (i := 1) (vs := [.int .u8 ((bs.getD 1 0).toNat : Int)]) (by omega) (getD_row (by omega)) 0 _ rfl) (WT.p 7 rfl (fun w' => (run_andN (k := .u8) (m := (bs.getD 1 0).toNat) (n := 128) rfl rfl (Int.ofNat_le.2 (show _ ≤ 255 by omega)) (by decide))) ?_)))))))
  refine WT.p 8 rfl (fun w' => (run_neqBit7 (c := bs.getD 1 0) rfl rfl)) (WT.m 9 rfl (WT.p 10 rfl (fun w' => (run_indexAddr underlying26 sizeOf5 rfl rfl (by omega) (by omega))) (WT.l 11 rfl isAgg5 rfl ((h.readsTo C).elem (i := 1) (vs := [.int .u8 ((bs.getD 1 0).toNat : Int)]) (by omega) (getD_row (by omega)) 0 _ rfl) (WT.p 12 rfl (fun w' => (run_andNot7 (c := bs.getD 1 0) rfl rfl)) (WT.p 13 rfl (fun w' => (run_convInt64 underlying5 underlying3 rfl (by omega) (by omega))) (WT.m 14 rfl (WT.p 15 rfl (fun w' => (run_indexAddr underlying26 sizeOf5 rfl rfl (by omega) (by omega))) ?_)))))))
  refine WT.l 16 rfl isAgg5 rfl ((h.readsTo C).elem (i := 2) (vs := [.int .u8 ((bs.getD 2 0).toNat : Int)]) (by omega) (getD_row (by omega)) 0 _ rfl) (WT.p 17 rfl (fun w' => (run_convInt64 underlying5 underlying3 rfl (by omega) (by omega))) (WT.m 18 rfl (WT.p 19 rfl (fun w' => (run_cutLV (n := bs.length) (l := 32) underlying26 sizeOf5 rfl rfl (by omega) (sliced_add (by omega)))) (WT.p 20 rfl (fun w' => (run_toArr underlying34 rfl (by omega))) (WT.loadN 21 rfl (by kernel_rfl) isAgg34 sizeOf34 rfl rfl ((cell16 (X := [x0, x1, x2, x3, x4, x5, x6, x7, x8, x9, xa, xb, xc, xd, xe, xf]) (h.readsTo C) hX)) rfl rfl ?_)))))
  refine WT.p 22 rfl (fun w' => (run_buildS (pl := qp2) (out := qv1) underlying36 zeroValue36 (fun w => by kernel_rfl) rfl (⟨⟨_, _, rfl, rfl, by decide⟩, ⟨⟨_, _, rfl, rfl, by decide⟩, ⟨⟨_, _, rfl, rfl, by decide⟩, ⟨⟨_, _, rfl, rfl, by decide⟩, ⟨⟨_, _, rfl, rfl, by decide⟩, trivial⟩⟩⟩⟩⟩) rfl)) ?_
  refine WT.e 23 [true, true, true, true, true] rfl (eff_alloc h zeroValue36 rfl) ?_
  rintro _ w ⟨b7, rfl, h⟩
  refine ⟨⟨((cell16 (X := [x0, x1, x2, x3, x4, x5, x6, x7, x8, x9, xa, xb, xc, xd, xe, xf]) (h.readsTo C) hX)), (h.readsTo C).elem (i := 2) (vs := [.int .u8 ((bs.getD 2 0).toNat : Int)]) (by omega) (getD_row (by omega)) 0 _ rfl, (h.readsTo C).elem (i := 1) (vs := [.int .u8 ((bs.getD 1 0).toNat : Int)]) (by omega) (getD_row (by omega)) 0 _ rfl, (h.readsTo C).elem (i := 1) (vs := [.int .u8 ((bs.getD 1 0).toNat : Int)]) (by omega) (getD_row (by omega)) 0 _ rfl, (h.readsTo C).elem (i := 0) (vs := [.int .u8 ((bs.getD 0 0).toNat : Int)]) (by omega) (getD_row (by omega)) 0 _ rfl, trivial⟩, ?_⟩
  refine WT.e 24 [false, false, false, false, false] rfl (eff_storeW (vs := (Pd.cells (gpK bs 0) (.slice none 0 0))) h sizeOf36 rfl (by show Value.agg _ = _; unfold Pd.cells; rw [show (gpK bs 0).cdb = [x0, x1, x2, x3, x4, x5, x6, x7, x8, x9, xa, xb, xc, xd, xe, xf] from hX]; rfl) (cells_len h16) (cells_one rfl) rfl) ?_
  rintro _ w h
  have h : On W0 (blk b7 (Pd.cells (gpK bs 0) (.slice none 0 0)) 36 :: _) w := h
  refine ⟨trivial, ?_⟩
  refine WT.dn (W.seq (W.sr (WL.f 4 underlying36 rfl sizeOf24 rfl rfl (WL.f 5 underlying36 rfl sizeOf24 rfl rfl (WL.f 6 underlying36 rfl sizeOf24 rfl rfl (WL.f 7 underlying36 rfl sizeOf24 rfl rfl ?_))))))
  refine WL.f 8 underlying36 rfl sizeOf24 rfl rfl (WL.f 9 underlying36 rfl sizeOf24 rfl rfl (WL.e (eff_mkRow (out := ptrs b7) h underlying147 sizeOf146 zeroValue146 rfl (by decide) rfl rfl rfl) ?_))
  rintro _ w ⟨b78, rfl, h⟩
  refine WL.v (run_lenSlice underlying147 rfl) (WL.m (WL.nil (W.block ?_)))
  refine W.loop (fun (k : Nat) env w => k ≤ 6 ∧ ∃ (j : Env), env = mkE j [(0, .slice (some ⟨ba, oa, none⟩) bs.length cx), (2, .pointer (some ⟨b2, 0, none⟩)), (5, .int .u64 (dataN bs : Int)), (7, .pointer (some ⟨b7, 0, none⟩)), (78, .slice (some ⟨b78, 0, none⟩) 6 6), (79, .int .i64 6), (80, .int .i64 (k : Int))] ∧ On W0 (Own 1 (.slice (some ⟨b78, 0, none⟩) 6 6) 6 (ptrs b7) :: blk b7 (Pd.cells (gpK bs k) (.slice none 0 0)) 36 :: blk b2 (Pd.cells zPd (.slice none 0 0)) 36 :: L) w) (fun k => 6 - k) (0) ?_ ?_
  · have h : On W0 (Own 1 (.slice (some ⟨b78, 0, none⟩) 6 6) 6 (ptrs b7) :: _) w := h
    exact ⟨by decide, _, mkE_of ⟨rfl, rfl, rfl, rfl, rfl, rfl, rfl, trivial⟩, h.to⟩
  clear h
  rintro k env w ⟨hk, j, rfl, h⟩
  refine W.sr (WL.v (run_lss rfl rfl) (WL.nil (W.seq ?_)))
  refine W.condIf rfl (fun c25 => ?_) (fun c25 => ?_)
  ·
   refine W.skip (W.seq ?_)
   have hk6 : k < 6 := by omega
   have hcdk := gpK_cdb bs k (by omega)
   have hnl := numAt_lt bs k
   refine W.block (W.sr (WL.m (WL.v (run_indexAddr underlying147 sizeOf146 rfl rfl (by omega) (by omega)) (WL.l isAgg146 rfl ((h.cellsO (v := .slice (some ⟨b78, 0, none⟩) 6 6)).elem (i := k) (vs := [.pointer (some ⟨b7, 0 + (4 + k), none⟩)]) hk6 (ptrs_row b7 k hk6) 0 _ rfl) (WL.a (WL.a ?_))))))
   refine WL.nil (W.sr (WL.m (WL.m (WL.v (run_mulN (m := 4) (n := k) rfl rfl (by omega)) (WL.v (run_addN (m := 8) (n := 4 * k) rfl rfl (by omega)) (WL.e (eff_call call52 (bgetE_ok (p := 8 + 4 * k) (n := 4) (bs := bs) (by decide) (by decide) h (Gives.to C))) ?_))))))
   rintro _ w ⟨y, ok90, hz90, rfl, h⟩
   have hyy : y = numAt bs k := hz90 (by omega)
   subst hyy
   refine WL.m (WL.v (run_extract rfl rfl) (WL.v (run_extract rfl rfl) (WL.a (WL.z (W.region (WL.m ?_))))))
   refine WL.m (WL.v (run_convIn underlying27 underlying24 rfl (by show (0 : Int) ≤ _; omega) (by show _ ≤ (4294967295 : Int); omega)) (WL.n rfl (WL.e (eff_store (v := .int .u32 (numAt bs k : Int)) h sizeOf24 rfl rfl rfl (by rw [cells_len hcdk, Nat.ble_eq]; omega) rfl) ?_)))
   rintro _ w h
   rw [gpK_set bs _ k hk6] at h
   refine WL.nil (W.region (WL.v (run_incN rfl rfl (by omega)) (WL.m (WL.nil ?_))))
   exact ⟨k + 1, ⟨by omega, _, mkE_of ⟨rfl, rfl, rfl, rfl, rfl, rfl, rfl, trivial⟩, h.to⟩, by show 6 - (k + 1) < 6 - k; omega⟩
  refine W.exit (W.seq ?_)
  have ob_ : k = 6 := by omega
  obtain rfl := ob_
  have hcd6 := gpK_cdb bs 6 (by omega)
  have hce : (Pd.cells (gpK bs 6) (.slice none 0 0)) = Pd.cells (getP bs) (.slice none 0 0) := by rw [gpK_six]
  refine W.region (WL.v (run_loadB (vs := (Pd.cells (gpK bs 6) (.slice none 0 0))) h isAgg36 sizeOf36 rfl (cells_all hcd6) (cells_len hcd6)) (WL.m (WL.v (run_convInt64 underlying27 underlying3 rfl (by omega) (by omega)) (WL.e (eff_storeW (vs := (Pd.cells (gpK bs 6) (.slice none 0 0))) h sizeOf36 rfl rfl (cells_len hcd6) (cells_one rfl) rfl) ?_))))
  rintro _ w h
  refine WL.a (WL.z (W.ret (bodyQ.rcttB (vs := (Pd.cells (gpK bs 6) (.slice none 0 0))) (v2 := .int .i64 _) (v3 := .int .i64 _) h results48 isAgg36 sizeOf36 rfl rfl (cells_len hcd6) rfl rfl ?_)))
  rw [hce]
  exact .inr ⟨hfr, by omega, rfl, h.to⟩
 refine WL.v (run_not rfl) (WL.m (WL.s (WL.s (WL.s (WL.s (WL.pt (WL.a ?_)))))))
 refine WL.nil (W.ct (W.sr ?_))
 refine WL.v (run_buildS (pl := qp2) (out := qv1) underlying36 zeroValue36 (fun w => by kernel_rfl) rfl (trivial) rfl) ?_
 refine WL.e (eff_storeW (vs := qv1) h sizeOf36 rfl rfl rfl rfl rfl) ?_
 rintro _ w h
 refine WL.a (WL.z (W.ret ?_))
 refine bodyQ.rcttB (vs := qv1) (v2 := .int .i64 _) (v3 := .int .i64 _) h results48 isAgg36 sizeOf36 rfl rfl rfl rfl rfl ?_
 exact .inl ⟨by rw [front2 hlen h4 (.inl hkn)]; decide, by rw [front2 hlen h4 (.inl hkn)]; rfl, h.to⟩
theorem decode_ok {ax : Option Addr} {cx : Nat} {bs : List UInt8} (hb : bs.length ≤ 1000000) (h : On W0 L w) (C : Gives L (Bytes (.slice ax bs.length cx) bs)) : Calls Tryz.prog 13 #[.slice ax bs.length cx] w (Ret fun v w' => (decE bs ≠ 0 ∧ v = .tuple #[.agg (Pd.cells zPd (.slice none 0 0)).toArray, .int .i64 0, .int .i64 (decE bs : Int)] ∧ On W0 L w') ∨ (decE bs = 0 ∧ 52 ≤ bs.length ∧ decN bs ≤ bs.length ∧ ∃ a c, v = .tuple #[.agg (Pd.cells (decP bs) (.slice a (decP bs).data.length c)).toArray, .int .i64 (decN bs : Int), .int .i64 0] ∧ On W0 (OwnB (.slice a (decP bs).data.length c) (decP bs).data :: L) w')) := by
 refine enter func13 rfl ntmps13 rfl ?_
 have hmx := maxLen_eq
 have hbd := (h.readsTo C).bounds
 obtain ⟨hbc, hbm⟩ := hbd
 refine W.sr (WL.e (eff_alloc h zeroValue36 rfl) ?_)
 rintro _ w ⟨b2, rfl, h⟩
 have h : On W0 (blk b2 (Pd.cells zPd (.slice none 0 0)) 36 :: L) w := h
 refine WL.a (WL.z (W.sr (WL.m (WL.e (eff_call call48 (front_ok hb h (Gives.to C))) ?_))))
 rintro _ w hv
 rcases hv with ⟨hfe, rfl, h⟩ | ⟨hfe, h52, rfl, h⟩
 ·
  refine WL.m (WL.v (run_extract rfl rfl) (WL.v (run_extract rfl rfl) (WL.v (run_extract rfl rfl) (WL.e (eff_alloc h zeroValue36 rfl) ?_))))
  rintro _ w ⟨b5, rfl, h⟩
  refine WL.e (eff_storeW (vs := (Pd.cells zPd (.slice none 0 0))) h sizeOf36 rfl rfl rfl rfl rfl) ?_
  rintro _ w h
  refine WL.a (WL.z (W.seq (W.sr (WL.m (WL.v (run_neqT rfl rfl (by omega)) ?_)))))
  refine WL.m (WL.s (WL.s (WL.pt (WL.nil (W.ct (W.seq (W.seq ?_)))))))
  refine W.region (WL.m (WL.v (run_neqT rfl rfl (by omega)) (WL.nil (W.ct (W.sr ?_)))))
  refine WL.v (run_buildS (pl := qp2) (out := qv1) underlying36 zeroValue36 (fun w => by kernel_rfl) rfl (trivial) rfl) ?_
  refine WL.m ?_
  refine WL.e (eff_storeW (vs := qv1) h sizeOf36 rfl rfl rfl rfl rfl) ?_
  rintro _ w h
  refine WL.a (WL.z (W.ret ?_))
  refine bodyQ.rcttB (vs := qv1) (v2 := .int .i64 _) (v3 := .int .i64 _) h results13 isAgg36 sizeOf36 rfl rfl rfl rfl rfl ?_
  have he : decE bs = frontE bs := dec_front hfe
  exact .inl ⟨by rw [he]; exact hfe, by rw [he]; rfl, h.to⟩
 refine WL.m (WL.v (run_extract rfl rfl) (WL.v (run_extract rfl rfl) (WL.v (run_extract rfl rfl) (WL.e (eff_alloc h zeroValue36 rfl) ?_))))
 rintro _ w ⟨b5, rfl, h⟩
 refine WL.e (eff_storeW (vs := (Pd.cells (getP bs) (.slice none 0 0))) h sizeOf36 rfl rfl (cells_len (getP_cdb bs h52)) (cells_one rfl) rfl) ?_
 rintro _ w h
 have hcd := getP_cdb bs h52
 have hnle := front_le hfe
 refine WL.a (WL.z (W.seq (W.sr (WL.m (WL.v (run_neqF rfl rfl (rfl)) ?_)))))
 refine WL.m (WL.m ?_)
 refine WL.q (run_eql rfl rfl) (fun c22 => ?_) (fun c22 => ?_)
 ·
  refine WL.pf (WL.nil (W.ct (W.seq (W.sr (WL.m (WL.v (run_neqF rfl rfl (rfl)) ?_))))))
  refine WL.nil (W.cs (W.sr (WL.v (run_loadB (vs := (Pd.cells (getP bs) (.slice none 0 0))) h isAgg36 sizeOf36 rfl (cells_all hcd) (cells_len hcd)) (WL.e (eff_storeW (vs := (Pd.cells (getP bs) (.slice none 0 0))) h sizeOf36 rfl rfl (cells_len hcd) (cells_one rfl) rfl) ?_))))
  rintro _ w h
  refine WL.a (WL.z (W.ret (bodyQ.rcttB (vs := (Pd.cells (getP bs) (.slice none 0 0))) (v2 := .int .i64 _) (v3 := .int .i64 _) h results13 isAgg36 sizeOf36 rfl rfl (cells_len hcd) rfl rfl ?_)))
  have hn0 : dataN bs = 0 := by omega
  have he := dec_none hfe hn0
  have hdp := decP_none hn0
  have hcv : (Pd.cells (getP bs) (.slice none 0 0)) = Pd.cells (decP bs) (.slice none (decP bs).data.length 0) := by rw [hdp]; rfl
  rw [hcv]
  have h := h.ownEmpty 1 none
  have h : On W0 (Own 1 (.slice none (decP bs).data.length 0) (decP bs).data.length (bytesV (decP bs).data) :: blk b5 (Pd.cells (getP bs) (.slice none 0 0)) 36 :: blk b2 (Pd.cells (getP bs) (.slice none 0 0)) 36 :: L) w := by rw [hdp]; exact h
  exact .inr ⟨he, h52, by rw [decN_none hn0]; exact h52, none, 0, by rw [decN_none hn0]; rfl, h.to⟩
 refine WL.pf (WL.nil (W.cs (W.seq ?_)))
 have hn0 : ¬ dataN bs = 0 := by omega
 have ob_ : ∃ D, D = bs.drop 52 := ⟨_, rfl⟩
 obtain ⟨D, hD⟩ := ob_
 have hDl : D.length = bs.length - 52 := by rw [hD, List.length_drop]
 have hct := cut_bytes (l := 52) (h := bs.length) C hbc h52 (Nat.le_refl _)
 rw [show (bs.drop 52).take (bs.length - 52) = D by rw [← hD]; exact List.take_of_length_le (by omega)] at hct
 obtain ⟨aD, cD, hcut, gD⟩ := hct
 have gDb := (h.reads (Gives.to gD)).bounds
 obtain ⟨hDc, hDm⟩ := gDb
 have hwn : ((dataN bs + 3) / 4 * 4) = wholeN (dataN bs) := rfl
 refine W.region (WL.m (WL.v (run_cutLV (n := bs.length) (l := 52) underlying26 sizeOf5 rfl rfl (by omega) hcut) (WL.z (W.sr (WL.m ?_)))))
 refine WL.v (run_addN (m := dataN bs) (n := 3) rfl rfl (by omega)) (WL.v (run_quoN (m := dataN bs + 3) (n := 4) rfl rfl (by omega) (by decide)) (WL.v (run_mulN (m := (dataN bs + 3) / 4) (n := 4) rfl rfl (by omega)) (WL.z (W.seq (W.sr ?_)))))
 refine WL.m (WL.v (run_lenSlice underlying26 rfl) (WL.m (WL.v (run_addN (m := ((dataN bs + 3) / 4 * 4)) (n := 4) rfl rfl (by omega)) (WL.v (run_lss rfl rfl) (WL.nil ?_)))))
 refine W.condIf rfl (fun c15 => ?_) (fun c15 => ?_)
 ·
  refine W.sr ?_
  refine WL.v (run_buildS (pl := qp2) (out := qv1) underlying36 zeroValue36 (fun w => by kernel_rfl) rfl (trivial) rfl) ?_
  refine WL.e (eff_storeW (vs := qv1) h sizeOf36 rfl rfl rfl rfl rfl) ?_
  rintro _ w h
  refine WL.a (WL.z (W.ret ?_))
  refine bodyQ.rcttB (vs := qv1) (v2 := .int .i64 _) (v3 := .int .i64 _) h results13 isAgg36 sizeOf36 rfl rfl rfl rfl rfl ?_
  have he : decE bs = 3 := dec3 hD hfe hn0 (by omega)
  exact .inl ⟨by rw [he]; decide, by rw [he]; rfl, h.to⟩
 refine W.skip (W.seq (W.seq ?_))
 have hl3 : ¬ D.length < wholeN (dataN bs) + 4 := by omega
 have ob_ : ∃ E1, E1 = D.take ((dataN bs + 3) / 4 * 4) := ⟨_, rfl⟩
 obtain ⟨E1, hE1⟩ := ob_
 have hE1l : E1.length = ((dataN bs + 3) / 4 * 4) := by rw [hE1, List.length_take]; omega
 have g1 : Gives L (Bytes (.slice aD E1.length cD) E1) := by rw [hE1]; exact front_bytes gD (by omega)
 have ob_ : ∃ E2, E2 = (D.drop ((dataN bs + 3) / 4 * 4)).take 4 := ⟨_, rfl⟩
 obtain ⟨E2, hE2⟩ := ob_
 have hct2 := cut_bytes (l := ((dataN bs + 3) / 4 * 4)) (h := ((dataN bs + 3) / 4 * 4) + 4) gD hDc (by omega) (by omega)
 rw [show (D.drop ((dataN bs + 3) / 4 * 4)).take (((dataN bs + 3) / 4 * 4) + 4 - ((dataN bs + 3) / 4 * 4)) = E2 by rw [hE2]; congr 1; omega] at hct2
 obtain ⟨a2, c2, hcut2, g2⟩ := hct2
 refine W.draw Tryz.follows h (fun w h => ?_)
 refine WT.m 0 rfl (WT.m 1 rfl (WT.p 2 rfl (fun w' => (run_cutHV (h := ((dataN bs + 3) / 4 * 4)) underlying26 sizeOf5 rfl rfl (by omega) hE1l.symm)) (WT.m 4 rfl (WT.m 5 rfl (WT.m 6 rfl (WT.p 7 rfl (fun w' => (run_addN (m := ((dataN bs + 3) / 4 * 4)) (n := 4) rfl rfl (by omega))) (WT.p 8 rfl (fun w' => (run_cutLHV (l := ((dataN bs + 3) / 4 * 4)) (h := ((dataN bs + 3) / 4 * 4) + 4) underlying26 sizeOf5 rfl rfl rfl (by omega) (by omega) hcut2)) ?_)))))))
 refine WT.e 3 [] rfl (eff_call call40 (plow_ok (bs := E1) h (Gives.to g1))) ?_
 rintro _ w ⟨a44, rfl, h⟩
 refine ⟨trivial, ?_⟩
 refine WT.e 9 [] rfl (eff_call call44 (equal_ok (bs := ByM.four (crcS E1)) (cs := E2) h (Gives.ownO (v := .slice a44 4 4)) (Gives.to g2))) ?_
 rintro _ w ⟨rfl, h⟩
 refine ⟨trivial, ?_⟩
 refine WT.p 10 rfl (fun w' => (run_notDec rfl)) (WT.dn ?_)
 refine W.condIf rfl (fun c20 => ?_) (fun c20 => ?_)
 ·
  refine W.sr ?_
  refine WL.v (run_buildS (pl := qp2) (out := qv1) underlying36 zeroValue36 (fun w => by kernel_rfl) rfl (trivial) rfl) ?_
  refine WL.e (eff_storeW (vs := qv1) h sizeOf36 rfl rfl rfl rfl rfl) ?_
  rintro _ w h
  refine WL.a (WL.z (W.ret ?_))
  refine bodyQ.rcttB (vs := qv1) (v2 := .int .i64 _) (v3 := .int .i64 _) h results13 isAgg36 sizeOf36 rfl rfl rfl rfl rfl ?_
  rw [hE1, hE2] at c20
  have he : decE bs = 4 := dec4 hD hfe hn0 hl3 c20
  exact .inl ⟨by rw [he]; decide, by rw [he]; rfl, h.to⟩
 refine W.skip (W.seq (W.seq ?_))
 have h4 := Decidable.not_not.1 c20
 rw [hE1, hE2] at h4
 have ob_ : ∃ E3, E3 = (D.drop (dataN bs)).take (((dataN bs + 3) / 4 * 4) - dataN bs) := ⟨_, rfl⟩
 obtain ⟨E3, hE3⟩ := ob_
 have hE3l : E3.length = ((dataN bs + 3) / 4 * 4) - dataN bs := by rw [hE3, List.length_take, List.length_drop]; omega
 have hct3 := cut_bytes (l := dataN bs) (h := ((dataN bs + 3) / 4 * 4)) gD hDc (by omega) (by omega)
 rw [show (D.drop (dataN bs)).take (((dataN bs + 3) / 4 * 4) - dataN bs) = E3 from hE3.symm] at hct3
 obtain ⟨a3, c3, hcut3, g3⟩ := hct3
 refine W.region (WL.m (WL.m (WL.m (WL.v (run_cutLHV (l := dataN bs) (h := ((dataN bs + 3) / 4 * 4)) underlying26 sizeOf5 rfl rfl rfl (by omega) (by omega) hcut3) (WL.v (run_lenSlice underlying26 rfl) (WL.m (WL.nil ?_)))))))
 refine W.block ?_
 refine W.loop (fun (k : Nat) env w => (k ≤ E3.length ∧ (E3.take k).all (fun c => c == 0) = true) ∧ ∃ (j : Env), env = mkE j [(2, .pointer (some ⟨b2, 0, none⟩)), (5, .pointer (some ⟨b5, 0, none⟩)), (6, .int .i64 (dataN bs : Int)), (8, .slice aD D.length cD), (9, .int .i64 (((dataN bs + 3) / 4 * 4) : Nat)), (56, .slice a3 E3.length c3), (57, .int .i64 (E3.length : Int)), (58, .int .i64 (k : Int))] ∧ On W0 (blk b5 (Pd.cells (getP bs) (.slice none 0 0)) 36 :: blk b2 (Pd.cells zPd (.slice none 0 0)) 36 :: L) w) (fun k => E3.length - k) (0) ?_ ?_
 · exact ⟨⟨Nat.zero_le _, rfl⟩, _, mkE_of ⟨rfl, rfl, rfl, rfl, rfl, rfl, rfl, rfl, trivial⟩, h.to⟩
 clear h
 rintro k env w ⟨⟨hk, hal⟩, j, rfl, h⟩
 refine W.sr (WL.v (run_lss rfl rfl) (WL.nil (W.seq ?_)))
 refine W.condIf rfl (fun c28 => ?_) (fun c28 => ?_)
 ·
  refine W.skip (W.seq ?_)
  have ob_ : ∃ c, E3[k]? = some c := ⟨E3[k]'(by omega), List.getElem?_eq_getElem _⟩
  obtain ⟨c, hc⟩ := ob_
  have ad_ := (h.readsTo g3).addr (by omega)
  obtain ⟨ba, oa, hq⟩ := ad_
  subst hq
  refine W.block (W.sr (WL.v (run_indexAddr underlying26 sizeOf5 rfl rfl (by omega) (by omega)) (WL.l isAgg5 rfl ((h.readsTo g3).elem (i := k) (vs := [.int .u8 (c.toNat : Int)]) (by omega) (bytes_row hc) 0 _ rfl) (WL.z (W.seq ?_)))))
  refine W.region (WL.m (WL.v (run_neq rfl rfl) (WL.nil ?_)))
  refine W.condIf rfl (fun c34 => ?_) (fun c34 => ?_)
  ·
   refine W.sr ?_
   refine WL.v (run_buildS (pl := qp2) (out := qv1) underlying36 zeroValue36 (fun w => by kernel_rfl) rfl (trivial) rfl) ?_
   refine WL.e (eff_storeW (vs := qv1) h sizeOf36 rfl rfl rfl rfl rfl) ?_
   rintro _ w h
   refine WL.a (WL.z (W.ret ?_))
   refine bodyQ.rcttB (vs := qv1) (v2 := .int .i64 _) (v3 := .int .i64 _) h results13 isAgg36 sizeOf36 rfl rfl rfl rfl rfl ?_
   have h3 := all_stop hc (fun e => c34 (by rw [e]; rfl))
   rw [hE3] at h3
   have he : decE bs = 2 := dec2 hD hfe hn0 hl3 h4 h3
   exact .inl ⟨by rw [he]; decide, by rw [he]; rfl, h.to⟩
  refine W.skip (W.region (WL.v (run_incN rfl rfl (by omega)) (WL.m (WL.nil ?_))))
  exact ⟨k + 1, ⟨⟨by omega, all_snoc hc (UInt8.toNat_inj.1 (by have := Decidable.not_not.1 c34; show c.toNat = 0; omega)) hal⟩, _, mkE_of ⟨rfl, rfl, rfl, rfl, rfl, rfl, rfl, rfl, trivial⟩, h⟩, by show E3.length - (k + 1) < E3.length - k; omega⟩
 refine W.exit (W.seq ?_)
 have h3 : E3.all (fun c => c == 0) = true := by rw [List.take_of_length_le (by omega)] at hal; exact hal
 rw [hE3] at h3
 have he := dec0 hD hfe hn0 hl3 h4 h3
 have hdn := decN_some hn0
 have hdd : (decP bs).data = D.take (dataN bs) := by rw [hD]; rfl
 have ob_ : ∃ DA, DA = (decP bs).data := ⟨_, rfl⟩
 obtain ⟨DA, hDA⟩ := ob_
 have hDAl : DA.length = dataN bs := by rw [hDA, hdd, List.length_take]; omega
 have g4 : Gives L (Bytes (.slice aD DA.length cD) DA) := by rw [hDA, hdd]; exact front_bytes gD (by omega)
 refine W.region (WL.m (WL.m (WL.v (run_cutHV (h := dataN bs) underlying26 sizeOf5 rfl rfl (by omega) hDAl.symm) (WL.e (eff_call call47 (clone_bytes h (Gives.to g4) (by omega))) ?_))))
 rintro _ w ⟨a69, c69, rfl, h⟩
 refine WL.e (eff_call call43 (clip_bytes h)) ?_
 rintro _ w ⟨rfl, h⟩
 refine WL.f 26 underlying36 rfl sizeOf26 rfl rfl (WL.e (eff_store (v := .slice a69 DA.length DA.length) h sizeOf26 rfl rfl rfl (by rw [cells_len hcd]; rfl) rfl) ?_)
 rintro _ w h
 rw [cells_set hcd] at h
 refine WL.nil (W.sr (WL.v (run_loadB (vs := (Pd.cells (getP bs) (.slice a69 DA.length DA.length))) h isAgg36 sizeOf36 rfl (cells_all hcd) (cells_len hcd)) (WL.m (WL.v (run_addN (m := 52) (n := ((dataN bs + 3) / 4 * 4)) rfl rfl (by omega)) (WL.v (run_addN (m := 52 + ((dataN bs + 3) / 4 * 4)) (n := 4) rfl rfl (by omega)) (WL.e (eff_storeW (vs := (Pd.cells (getP bs) (.slice a69 DA.length DA.length))) h sizeOf36 rfl rfl (cells_len hcd) (cells_one rfl) rfl) ?_))))))
 rintro _ w h
 refine WL.a (WL.z (W.ret (bodyQ.rcttB (vs := (Pd.cells (getP bs) (.slice a69 DA.length DA.length))) (v2 := .int .i64 _) (v3 := .int .i64 _) h results13 isAgg36 sizeOf36 rfl rfl (cells_len hcd) rfl rfl ?_)))
 rw [hDA] at h ⊢
 exact .inr ⟨he, h52, by omega, a69, (decP bs).data.length, by rw [hdn]; rfl, h.to⟩
theorem newRd_ok (h : On W0 L w) : Calls Tryz.prog 22 #[] w (Ret fun v w' => ∃ b, v = .pointer (some ⟨b, 0, none⟩) ∧ On W0 (RdrP 117 b ⟨[], 0⟩ :: L) w') := by
 refine enter func22 rfl ntmps22 rfl (W.sr (WL.z (W.sr (WL.v (run_buildS (pl := qp1) (out := [.slice _ _ _, .int .i64 _]) underlying117 zeroValue117 (fun w => by kernel_rfl) rfl (trivial) rfl) ?_))))
 refine WL.e (eff_box (v := .agg _) (l := [.slice _ _ _, .int .i64 _]) h rfl rfl) ?_
 rintro _ w ⟨b2, rfl, h⟩
 refine WL.z (W.ret (bodyQ.r1 (v := .pointer _) results22 rfl ?_))
 have h := h.ownEmpty 1 none
 have h : On W0 (RdrP 117 _ ⟨[], 0⟩ :: L) w := closeRd (a := none) (c := 0) (r := ⟨[], 0⟩) h.p1
 exact ⟨_, rfl, h⟩
theorem rerr_ok {br : Nat} {r : Rdr} (h : On W0 (RdrP 117 br r :: L) w) : Calls Tryz.prog 31 #[.pointer (some ⟨br, 0, none⟩)] w (Ret fun v w' => v = .int .i64 (r.err : Int) ∧ On W0 (RdrP 117 br r :: L) w') := by
 refine enter func31 rfl ntmps31 rfl ?_
 have ho := openRd h
 obtain ⟨a, c, h⟩ := ho
 refine W.sr (WL.z (W.sr (WL.m (WL.n rfl ?_))))
 refine WL.c 1 underlying117 rfl sizeOf31 rfl isAgg31 h rfl (WL.z (W.ret (bodyQ.r1 (v := .int .i64 _) results31 rfl ?_)))
 exact ⟨rfl, closeRd h⟩
theorem rput_ok {ax : Option Addr} {cx : Nat} {bs : List UInt8} {br : Nat} {r : Rdr} (hl : r.b.length + bs.length ≤ 1000000) (h : On W0 (RdrP 117 br r :: L) w) (C : Gives L (Bytes (.slice ax bs.length cx) bs)) : Calls Tryz.prog 27 #[.pointer (some ⟨br, 0, none⟩), .slice ax bs.length cx] w (Ret fun v w' => On W0 (RdrP 117 br (r.put bs) :: L) w') := by
 refine enter func27 rfl ntmps27 rfl ?_
 have hmx := maxLen_eq
 have ho := openRd h
 obtain ⟨a, c, h⟩ := ho
 refine W.sr (WL.m (WL.n rfl (WL.c 1 underlying117 rfl sizeOf31 rfl isAgg31 h rfl (WL.v (run_eql rfl rfl) (WL.nil ?_)))))
 refine W.condIf rfl (fun c1 => ?_) (fun c1 => ?_)
 ·
  refine W.region (WL.m (WL.m (WL.n rfl (WL.c 0 underlying117 rfl sizeOf26 rfl isAgg26 h rfl (WL.m (WL.e (eff_app (c2 := cx) (bytes := 1) (h.own (.slice a r.b.length c)) rfl rfl (h.readsTo C) underlying26 rfl rfl rfl rfl rfl (by omega) (by omega) bytes_one) ?_))))))
  rintro _ w ⟨a15, c15, hv15, h⟩
  have el : r.b.length + bs.length = (r.b ++ bs).length := List.length_append.symm
  have ev : bytesV r.b ++ bytesV bs = bytesV (r.b ++ bs) := by simp [bytesV]
  rw [ev, el] at h
  rw [el] at hv15
  subst hv15
  refine WL.n rfl (WL.f 0 underlying117 rfl sizeOf26 rfl rfl (WL.e (eff_store (v := .slice a15 (r.b ++ bs).length c15) h sizeOf26 rfl rfl rfl rfl rfl) ?_))
  rintro _ w h
  have h : On W0 (blk br [.slice a15 (r.b ++ bs).length c15, .int .i64 (r.err : Int)] 117 :: OwnB (.slice a15 (r.b ++ bs).length c15) (r.b ++ bs) :: L) w := h.p1
  refine WL.nil (bodyQ.fall (bodyQ.r0 results27 ?_))
  rw [put_ok (by omega)]
  exact closeRd (r := ⟨r.b ++ bs, r.err⟩) h
 refine W.skip (bodyQ.fall (bodyQ.r0 results27 ?_))
 rw [put_no (by omega)]
 exact closeRd h
theorem rnext_ok {br : Nat} {r : Rdr} (hl : r.b.length ≤ 1000000) (h : On W0 (RdrP 117 br r :: L) w) : Calls Tryz.prog 29 #[.pointer (some ⟨br, 0, none⟩)] w (Ret fun v w' => (r.next.1.2 = false ∧ v = .tuple #[.agg (Pd.cells zPd (.slice none 0 0)).toArray, .bool false] ∧ On W0 (RdrP 117 br r.next.2 :: L) w') ∨ (r.next.1.2 = true ∧ r.next.1.1.cdb.length = 16 ∧ ∃ a c, v = .tuple #[.agg (Pd.cells r.next.1.1 (.slice a r.next.1.1.data.length c)).toArray, .bool true] ∧ On W0 (OwnB (.slice a r.next.1.1.data.length c) r.next.1.1.data :: RdrP 117 br r.next.2 :: L) w')) := by
 refine enter func29 rfl ntmps29 rfl ?_
 have hmx := maxLen_eq
 have ho := openRd h
 obtain ⟨a, c, h⟩ := ho
 refine W.sr (WL.e (eff_alloc h zeroValue36 rfl) ?_)
 rintro _ w ⟨b2, rfl, h⟩
 have h : On W0 (blk b2 (Pd.cells zPd (.slice none 0 0)) 36 :: blk br [.slice a r.b.length c, .int .i64 (r.err : Int)] 117 :: OwnB (.slice a r.b.length c) r.b :: L) w := h
 refine WL.z (W.scope (W.seq (W.sr (WL.m (WL.n rfl ?_)))))
 refine WL.c 1 underlying117 rfl sizeOf31 rfl isAgg31 h rfl (WL.v (run_neq rfl rfl) (WL.nil ?_))
 refine W.condIf rfl (fun c3 => ?_) (fun c3 => ?_)
 ·
  refine W.sr ?_
  refine WL.v (run_buildS (pl := qp2) (out := qv1) underlying36 zeroValue36 (fun w => by kernel_rfl) rfl (trivial) rfl) ?_
  refine WL.e (eff_storeW (vs := qv1) h sizeOf36 rfl rfl rfl rfl rfl) ?_
  rintro _ w h
  refine WL.z (W.ret ?_)
  refine bodyQ.rctB (vs := qv1) (v2 := .bool _) h results29 isAgg36 sizeOf36 rfl rfl rfl rfl ?_
  have hn := next_err (r := r) (by omega)
  rw [hn]
  have h := closeRd h.tail
  exact .inl ⟨rfl, rfl, h⟩
 refine W.skip (W.sr (WL.m (WL.n rfl (WL.c 0 underlying117 rfl sizeOf26 rfl isAgg26 h rfl (WL.e (eff_call call13 (decode_ok (bs := r.b) hl h (Gives.ownO (v := .slice a r.b.length c)))) ?_)))))
 rintro _ w hv
 rcases hv with ⟨hde, rfl, h⟩ | ⟨hde, h52, hnl, ad, cd, rfl, h⟩
 all_goals have he0 : r.err = 0 := by omega
 ·
  refine WL.m (WL.v (run_extract rfl rfl) (WL.v (run_extract rfl rfl) (WL.v (run_extract rfl rfl) (WL.e (eff_alloc h zeroValue36 rfl) ?_))))
  rintro _ w ⟨b4, rfl, h⟩
  refine WL.e (eff_storeW (vs := (Pd.cells zPd (.slice none 0 0))) h sizeOf36 rfl rfl rfl rfl rfl) ?_
  rintro _ w h
  refine WL.a (WL.z (W.seq (W.label (W.seq (W.block ?_)))))
  refine W.loop (fun (k : Nat) env w => ∃ (j : Env), env = mkE j [(0, .pointer (some ⟨br, 0, none⟩)), (2, .pointer (some ⟨b2, 0, none⟩)), (6, .int .i64 (decE r.b : Int))] ∧ On W0 (blk b2 (Pd.cells zPd (.slice none 0 0)) 36 :: blk br [.slice a r.b.length c, .int .i64 (r.err : Int)] 117 :: OwnB (.slice a r.b.length c) r.b :: L) w) (fun k => k) (0) ?_ ?_
  · exact ⟨_, mkE_of ⟨rfl, rfl, rfl, trivial⟩, h.to⟩
  clear h
  rintro k env w ⟨j, rfl, h⟩
  refine W.block (W.seq (W.sr (WL.m (WL.nil (W.block (W.seq ?_))))))
  refine W.region (WL.v (run_eqlF rfl rfl (by omega)) (WL.z (W.cf (W.sr ?_))))
  refine WL.q (run_eql rfl rfl) (fun c37 => ?_) (fun c37 => ?_)
  ·
   refine WL.z (W.ct (W.exit (W.sr ?_)))
   refine WL.v (run_buildS (pl := qp2) (out := qv1) underlying36 zeroValue36 (fun w => by kernel_rfl) rfl (trivial) rfl) ?_
   refine WL.e (eff_storeW (vs := qv1) h sizeOf36 rfl rfl rfl rfl rfl) ?_
   rintro _ w h
   refine WL.z (W.ret ?_)
   refine bodyQ.rctB (vs := qv1) (v2 := .bool _) h results29 isAgg36 sizeOf36 rfl rfl rfl rfl ?_
   have hn := next_short he0 (by omega)
   rw [hn]
   exact .inl ⟨rfl, rfl, (closeRd h.tail)⟩
  refine WL.z (W.cs (W.sr (WL.m (WL.m ?_))))
  refine WL.m (WL.n rfl (WL.f 1 underlying117 rfl sizeOf31 rfl rfl (WL.e (eff_store (v := .int .i64 _) h sizeOf31 rfl rfl rfl rfl rfl) ?_)))
  rintro _ w h
  try simp only [Nat.zero_add, Nat.add_zero, List.set_cons_zero, List.set_cons_succ] at h
  refine WL.n rfl (WL.f 0 underlying117 rfl sizeOf26 rfl rfl (WL.e (eff_store (v := .slice _ _ _) h sizeOf26 rfl rfl rfl rfl rfl) ?_))
  rintro _ w h
  try simp only [Nat.zero_add, Nat.add_zero, List.set_cons_zero, List.set_cons_succ] at h
  refine WL.nil (W.exit (W.sr ?_))
  refine WL.v (run_buildS (pl := qp2) (out := qv1) underlying36 zeroValue36 (fun w => by kernel_rfl) rfl (trivial) rfl) ?_
  refine WL.e (eff_storeW (vs := qv1) h sizeOf36 rfl rfl rfl rfl rfl) ?_
  rintro _ w h
  refine WL.z (W.ret ?_)
  refine bodyQ.rctB (vs := qv1) (v2 := .bool _) h results29 isAgg36 sizeOf36 rfl rfl rfl rfl ?_
  have hn := next_bad he0 hde (by omega)
  rw [hn]
  have h := h.ownEmpty 1 none
  have h := closeRd (T := 117) (b := br) (a := none) (c := 0) (r := ⟨[], decE r.b⟩) (h.fetch (blk br [.slice none 0 0, .int .i64 (decE r.b : Int)] 117))
  exact .inl ⟨rfl, rfl, h.to⟩
 refine WL.m (WL.v (run_extract rfl rfl) (WL.v (run_extract rfl rfl) (WL.v (run_extract rfl rfl) (WL.e (eff_alloc h zeroValue36 rfl) ?_))))
 rintro _ w ⟨b4, rfl, h⟩
 refine WL.e (eff_storeW (vs := (Pd.cells (decP r.b) (.slice ad (decP r.b).data.length cd))) h sizeOf36 rfl rfl (cells_len (getP_cdb r.b h52)) (cells_one rfl) rfl) ?_
 rintro _ w h
 have hcd : (decP r.b).cdb.length = 16 := getP_cdb r.b h52
 refine WL.a (WL.z (W.seq (W.label (W.seq (W.block ?_)))))
 refine W.loop (fun (k : Nat) env w => ∃ (j : Env), env = mkE j [(0, .pointer (some ⟨br, 0, none⟩)), (2, .pointer (some ⟨b2, 0, none⟩)), (4, .pointer (some ⟨b4, 0, none⟩)), (5, .int .i64 (decN r.b : Int)), (6, .int .i64 0)] ∧ On W0 (blk b4 (Pd.cells (decP r.b) (.slice ad (decP r.b).data.length cd)) 36 :: OwnB (.slice ad (decP r.b).data.length cd) (decP r.b).data :: blk b2 (Pd.cells zPd (.slice none 0 0)) 36 :: blk br [.slice a r.b.length c, .int .i64 (r.err : Int)] 117 :: OwnB (.slice a r.b.length c) r.b :: L) w) (fun k => k) (0) ?_ ?_
 · exact ⟨_, mkE_of ⟨rfl, rfl, rfl, rfl, rfl, trivial⟩, h.to⟩
 clear h
 rintro k env w ⟨j, rfl, h⟩
 refine W.block (W.seq (W.sr (WL.m (WL.nil (W.block (W.seq ?_))))))
 refine W.region (WL.v (run_eqlT rfl rfl (rfl)) (WL.z (W.ct (W.seq ?_))))
 have hob := Own.bounds (h.own (.slice a r.b.length c))
 have gR : Gives [OwnB (.slice a r.b.length c) r.b] (Bytes (.slice a r.b.length c) r.b) := Gives.ownO (v := .slice a r.b.length c)
 have hct := cut_bytes (l := decN r.b) (h := r.b.length) gR hob.1 hnl (Nat.le_refl _)
 rw [show (r.b.drop (decN r.b)).take (r.b.length - decN r.b) = (r.b.drop (decN r.b)) from List.take_of_length_le (by rw [List.length_drop]; omega)] at hct
 obtain ⟨aD, cD, hcut, gD⟩ := hct
 have hgl : (r.b.drop (decN r.b)).length ≤ 1000000 := by rw [List.length_drop]; omega
 refine W.region (WL.m (WL.m (WL.n rfl (WL.c 0 underlying117 rfl sizeOf26 rfl isAgg26 h rfl (WL.m (WL.v (run_cutLV (n := r.b.length) (l := decN r.b) underlying26 sizeOf5 rfl rfl hnl hcut) ?_))))))
 refine WL.e (eff_call call47 (clone_bytes h (Gives.to (T := [OwnB (.slice a r.b.length c) r.b]) gD) (by omega))) ?_
 rintro _ w ⟨a32, c32, rfl, h⟩
 refine WL.n rfl (WL.f 0 underlying117 rfl sizeOf26 rfl rfl (WL.e (eff_store (v := .slice a32 (r.b.drop (decN r.b)).length c32) h sizeOf26 rfl rfl rfl rfl rfl) ?_))
 rintro _ w h
 have h : On W0 (OwnB (.slice a32 (r.b.drop (decN r.b)).length c32) (r.b.drop (decN r.b)) :: blk b4 (Pd.cells (decP r.b) (.slice ad (decP r.b).data.length cd)) 36 :: OwnB (.slice ad (decP r.b).data.length cd) (decP r.b).data :: blk b2 (Pd.cells zPd (.slice none 0 0)) 36 :: blk br [.slice a32 (r.b.drop (decN r.b)).length c32, .int .i64 (r.err : Int)] 117 :: OwnB (.slice a r.b.length c) r.b :: L) w := h
 refine WL.nil (W.sr (WL.v (run_loadB (vs := (Pd.cells (decP r.b) (.slice ad (decP r.b).data.length cd))) h isAgg36 sizeOf36 rfl (cells_all hcd) (cells_len hcd)) (WL.e (eff_storeW (vs := (Pd.cells (decP r.b) (.slice ad (decP r.b).data.length cd))) h sizeOf36 rfl rfl (cells_len hcd) (cells_one rfl) rfl) ?_)))
 rintro _ w h
 refine WL.z (W.ret (bodyQ.rctB (vs := (Pd.cells (decP r.b) (.slice ad (decP r.b).data.length cd))) (v2 := .bool _) h results29 isAgg36 sizeOf36 rfl rfl (cells_len hcd) rfl ?_))
 have hn := next_ok he0 hde
 rw [he0] at h
 rw [hn]
 have h := closeRd (r := ⟨(r.b.drop (decN r.b)), 0⟩) ((h.fetch (OwnB (.slice a32 (r.b.drop (decN r.b)).length c32) (r.b.drop (decN r.b)))).fetch (blk br [.slice a32 (r.b.drop (decN r.b)).length c32, .int .i64 ((0 : Nat) : Int)] 117))
 exact .inr ⟨rfl, hcd, ad, cd, rfl, h.to⟩
theorem gap_ok {a b : Nat} (ha : a < 4294967296) (hb : b < 4294967296) (h : On W0 L w) : Calls Tryz.prog 99 #[.int .u32 (a : Int), .int .u32 (b : Int)] w (Ret fun v w' => ∃ g : Int, GapIs a b g ∧ (-2147483648 ≤ g ∧ g < 2147483648) ∧ v = .int .i64 g ∧ On W0 L w') := by
 refine enter func99 rfl ntmps99 rfl ?_
 have hg := gapM_bound a b
 refine W.sr (WL.z (W.sr (WL.m (WL.m ?_))))
 refine WL.v (run_subW rfl rfl) (WL.v (run_convInt underlying24 underlying21 rfl) (WL.v (run_convInt64 underlying21 underlying3 rfl (by rw [gapM_val ha hb]; omega) (by rw [gapM_val ha hb]; omega)) (WL.z (W.ret (bodyQ.r1 (v := .int .i64 _) results99 rfl ?_)))))
 exact ⟨_, rfl, hg, congrArg (Value.int .i64) (gapM_val ha hb), h⟩
theorem cnew_ok {own : Nat} {first : Bool} (hown : own < 4294967296) (h : On W0 L w) : Calls Tryz.prog 21 #[.int .u32 (own : Int), .bool first] w (Ret fun v w' => ∃ b, v = .pointer (some ⟨b, 0, none⟩) ∧ On W0 (ConnP 115 b (newC own first) :: L) w') := by
 refine enter func21 rfl ntmps21 rfl (W.sr (WL.z (W.sr (WL.m ?_))))
 refine WL.m (WL.m ?_)
 refine WL.v (run_buildS (pl := [(0, 1), (1, 1), (2, 1), (3, 1), (4, 1), (5, 1), (6, 1), (7, 1), (8, 1), (9, 1), (10, 1), (11, 1)]) (out := [.int .u32 _, .bool _, .int .u32 _, .bool _, .bool _, .bool _, .slice _ _ _, .int .u32 _, .int .i64 _, .slice _ _ _, .int .u32 _, .bool _]) underlying115 zeroValue115 (fun w => by kernel_rfl) rfl (⟨⟨_, _, rfl, rfl, by decide⟩, ⟨⟨_, _, rfl, rfl, by decide⟩, ⟨⟨_, _, rfl, rfl, by decide⟩, trivial⟩⟩⟩) rfl) ?_
 refine WL.e (eff_box (v := .agg _) (l := [.int .u32 _, .bool _, .int .u32 _, .bool _, .bool _, .bool _, .slice _ _ _, .int .u32 _, .int .i64 _, .slice _ _ _, .int .u32 _, .bool _]) h rfl rfl) ?_
 rintro _ w ⟨b9, rfl, h⟩
 refine WL.z (W.ret (bodyQ.r1 (v := .pointer _) results21 rfl ?_))
 have h := h.ownEmpty 1 none
 have h := h.ownEmpty 1 none
 have h := closeCn (c := newC own first) (T := 115) (b := b9) (ao := none) (co := 0) (ai := none) (ci := 0) (wf_new hown) h.p2
 exact ⟨b9, rfl, h⟩
theorem csend_ok {ax : Option Addr} {cx : Nat} {bs : List UInt8} {bc : Nat} {c : Cn} (hb : bs.length ≤ 1000000000) (h : On W0 (ConnP 115 bc c :: L) w) (C : Gives L (Bytes (.slice ax bs.length cx) bs)) : Calls Tryz.prog 23 #[.pointer (some ⟨bc, 0, none⟩), .slice ax bs.length cx] w (Ret fun v w' => v = .int .i64 (c.sendN bs : Int) ∧ On W0 (ConnP 115 bc (c.send bs) :: L) w') := by
 refine enter func23 rfl ntmps23 rfl ?_
 have ho_ := openCn h
 obtain ⟨ao, co, ai, ci, hw, h⟩ := ho_
 have hw_ := hw
 obtain ⟨⟨hw1, hw2, hw3, hw4⟩, hwo, hwi, hws⟩ := hw_
 have hmx := maxLen_eq
 have hbd := (h.readsTo C).bounds
 obtain ⟨hbc, hbm⟩ := hbd
 refine W.sr (WL.z (W.seq (W.sr (WL.m ?_))))
 refine WL.n rfl (WL.c 5 underlying115 rfl sizeOf4 rfl isAgg4 h rfl (WL.nil ?_))
 refine W.condB rfl (fun c2 => ?_) (fun c2 => ?_)
 ·
  refine W.sr (WL.z (W.ret (bodyQ.r1 (v := .int .i64 _) results23 rfl ?_)))
  have e1 : c.sendN bs = 0 := by unfold Cn.sendN; rw [c2]; rfl
  have e2 : c.send bs = c := by unfold Cn.send; rw [c2]; rfl
  rw [e1, e2]
  exact ⟨rfl, closeCn hw h⟩
 refine W.skip (W.seq ?_)
 have ob_ : ∃ N, N = min bs.length (4096 - c.out.length) := ⟨_, rfl⟩
 obtain ⟨N, hN⟩ := ob_
 have ob_ : ∃ X, X = bs.take N := ⟨_, rfl⟩
 obtain ⟨X, hX⟩ := ob_
 have hXl : X.length = N := by rw [hX, List.length_take]; omega
 have gX : Gives L (Bytes (.slice ax X.length cx) X) := by rw [hX]; exact front_bytes C (by omega)
 refine W.region (WL.m (WL.v (run_lenSlice underlying26 rfl) (WL.m (WL.n rfl (WL.c 6 underlying115 rfl sizeOf26 rfl isAgg26 h rfl (WL.v (run_lenSlice underlying26 rfl) ?_))))))
 refine WL.v (run_subN (m := 4096) (n := c.out.length) rfl rfl hwo (by omega)) (WL.v (run_minN (m := bs.length) (n := 4096 - c.out.length) rfl rfl hN.symm) (WL.z (W.seq ?_)))
 refine W.draw Tryz.follows h (fun w h => ?_)
 refine WT.m 0 rfl (WT.m 1 rfl (WT.n 2 rfl rfl (WT.f 3 6 rfl underlying115 rfl sizeOf26 rfl rfl (WT.l 4 rfl isAgg26 rfl (h.cellB rfl) (WT.m 5 rfl (WT.m 6 rfl (WT.p 7 rfl (fun w' => (run_cutHV (h := N) underlying26 sizeOf5 rfl rfl (by omega) hXl.symm)) ?_)))))))
 refine WT.e 8 [false] rfl (eff_app (c2 := cx) (bytes := 1) (h.own (.slice ao c.out.length co)) rfl rfl (h.readsTo gX) underlying26 rfl rfl rfl rfl rfl (by omega) (by omega) bytes_one) ?_
 rintro _ w ⟨a27, c27, hv27, h⟩
 have el : c.out.length + X.length = (c.out ++ X).length := List.length_append.symm
 have ev : bytesV c.out ++ bytesV X = bytesV (c.out ++ X) := by simp [bytesV]
 rw [ev, el] at h
 rw [el] at hv27
 subst hv27
 refine ⟨trivial, ?_⟩
 refine WT.n 9 rfl rfl (WT.f 10 6 rfl underlying115 rfl sizeOf26 rfl rfl (WT.e 11 [] rfl (eff_store (v := .slice a27 (c.out ++ X).length c27) h sizeOf26 rfl rfl rfl rfl rfl) ?_))
 rintro _ w h
 refine ⟨trivial, ?_⟩
 refine WT.dn (W.sr (WL.m (WL.z (W.ret (bodyQ.r1 (v := .int .i64 _) results23 rfl ?_)))))
 have e1 : c.sendN bs = N := by unfold Cn.sendN; rw [c2, hN]; rfl
 have e2 : c.send bs = { c with out := c.out ++ X } := by unfold Cn.send; rw [c2, e1, hX]; rfl
 rw [e1, e2]
 have hw2 : wfC { c with out := c.out ++ X } := ⟨⟨hw1, hw2, hw3, hw4⟩, by show (c.out ++ X).length ≤ 4096; rw [← el]; omega, hwi, by show c.sent ≤ (c.out ++ X).length; rw [← el]; omega⟩
 exact ⟨rfl, closeCn (c := { c with out := c.out ++ X }) (ao := a27) (co := c27) (ai := ai) (ci := ci) hw2 h.p1⟩
theorem crecv_ok {bc : Nat} {c : Cn} (h : On W0 (ConnP 115 bc c :: L) w) : Calls Tryz.prog 28 #[.pointer (some ⟨bc, 0, none⟩)] w (Ret fun v w' => ∃ a, v = .slice a c.inb.length c.inb.length ∧ On W0 (OwnB (.slice a c.inb.length c.inb.length) c.inb :: ConnP 115 bc c.recv :: L) w') := by
 refine enter func28 rfl ntmps28 rfl ?_
 have ho_ := openCn h
 obtain ⟨ao, co, ai, ci, hw, h⟩ := ho_
 have hw_ := hw
 obtain ⟨⟨hw1, hw2, hw3, hw4⟩, hwo, hwi, hws⟩ := hw_
 have hmx := maxLen_eq
 refine W.sr (WL.z (W.sr (WL.m (WL.n rfl ?_))))
 refine WL.c 9 underlying115 rfl sizeOf26 rfl isAgg26 h rfl (WL.e (eff_call call43 (clip_bytes (h.own (.slice ai c.inb.length ci)))) ?_)
 rintro _ w ⟨rfl, h⟩
 refine WL.z (W.sr (WL.m (WL.n rfl (WL.f 9 underlying115 rfl sizeOf26 rfl rfl (WL.e (eff_store (v := .slice none 0 0) h sizeOf26 rfl rfl rfl rfl rfl) ?_)))))
 rintro _ w h
 have h := h.ownEmpty 1 none
 have h : On W0 (OwnB (.slice none 0 0) [] :: OwnB (.slice ai c.inb.length c.inb.length) c.inb :: blk bc (cnCells c.recv ao co none 0) 115 :: OwnB (.slice ao c.out.length co) c.out :: L) w := h
 refine WL.nil (W.sr (WL.m (WL.z (W.ret (bodyQ.r1 (v := .slice _ _ _) results28 rfl ?_)))))
 have h := closeCn (c := c.recv) (ao := ao) (co := co) (ai := none) (ci := 0) ⟨⟨hw1, hw2, hw3, hw4⟩, hwo, Nat.zero_le _, hws⟩ ((h.fetch (OwnB (.slice ao c.out.length co) c.out)).fetch (blk bc (cnCells c.recv ao co none 0) 115))
 exact ⟨ai, rfl, h.to⟩
theorem packet_ok {ax : Option Addr} {cx : Nat} {bs : List UInt8} {bc co ci s fr : Nat} {ao ai : Option Addr} {sy : Bool} {c : Cn} [i : HasBlk L bc (pkCells c ao co ai ci s sy) 115 (0, 0)] (hw : wfC c) (hfr : fr ≤ 1000000) (hb : bs.length ≤ 1000000) (h : On W0 L w) (C : Gives L (Bytes (.slice ax bs.length cx) bs)) : Calls Tryz.prog 62 #[.pointer (some ⟨bc, 0, none⟩), .int .i64 (fr : Int), .slice ax bs.length cx] w (Ret fun v w' => ∃ a, v = .slice a (c.packet fr bs).length (c.packet fr bs).length ∧ On W0 (OwnB (.slice a (c.packet fr bs).length (c.packet fr bs).length) (c.packet fr bs) :: L) w') := by
 refine enter func62 rfl ntmps62 rfl ?_
 have hmx := maxLen_eq
 refine W.sr (WL.z (W.sr (WL.e (eff_mkSlice (zl := [.int .u8 0]) (out := [.int .u8 _]) h underlying26 sizeOf5 zeroValue5 (by decide) (by kernel_rfl) rfl rfl (by simp) (⟨⟨_, _, rfl, rfl, by decide⟩, trivial⟩) rfl rfl (by simp [maxLen])) ?_)))
 rintro _ w ⟨b10, rfl, h⟩
 have h : On W0 (Own 1 (.slice (some ⟨b10, 0, none⟩) 1 1) 1 [.int .u8 0] :: L) w := h
 refine WL.z ?_
 refine W.cut (fun env w => ∃ (j : Env), env = mkE j [(0, .pointer (some ⟨bc, 0, none⟩)), (1, .int .i64 (fr : Int)), (2, .slice ax bs.length cx), (7, .slice (some ⟨b10, 0, none⟩) 1 1)] ∧ On W0 (OwnB (.slice (some ⟨b10, 0, none⟩) 1 1) [c.kind] :: L) w) ?_ ?_
 ·
  refine W.block (W.sr (WL.m (WL.n rfl (WL.c 4 underlying115 rfl sizeOf4 rfl isAgg4 h rfl (WL.a ?_)))))
  refine WL.nil ?_
  refine W.condB rfl (fun c4 => ?_) (fun c4 => ?_)
  ·
   refine W.region (WL.m (WL.v (run_indexAddr underlying26 sizeOf5 rfl rfl (by omega) (by omega)) (WL.e (eff_storeOwn (v := .int .u8 2) (k := 0) h sizeOf5 rfl rfl rfl (by decide)) ?_)))
   rintro _ w h
   refine WL.nil ?_
   have e : c.kind = 2 := by unfold Cn.kind; rw [c4]; rfl
   rw [e]
   exact ⟨_, mkE_of ⟨rfl, rfl, rfl, rfl, trivial⟩, h⟩
  refine W.sr (WL.m (WL.n rfl (WL.c 3 underlying115 rfl sizeOf4 rfl isAgg4 h rfl (WL.z ?_))))
  refine W.condB rfl (fun c7 => ?_) (fun c7 => ?_)
  ·
   refine W.region (WL.m (WL.v (run_indexAddr underlying26 sizeOf5 rfl rfl (by omega) (by omega)) (WL.e (eff_storeOwn (v := .int .u8 1) (k := 0) h sizeOf5 rfl rfl rfl (by decide)) ?_)))
   rintro _ w h
   refine WL.nil ?_
   have e : c.kind = 1 := by unfold Cn.kind; rw [c4, c7]; rfl
   rw [e]
   exact ⟨_, mkE_of ⟨rfl, rfl, rfl, rfl, trivial⟩, h⟩
  refine W.skip ?_
  have e : c.kind = 0 := by unfold Cn.kind; rw [c4, c7]; rfl
  rw [e]
  exact ⟨_, mkE_of ⟨rfl, rfl, rfl, rfl, trivial⟩, h⟩
 clear h
 rintro env w ⟨j, rfl, h⟩
 refine W.seq (W.seq ?_)
 refine W.draw Tryz.follows h (fun w h => ?_)
 refine WT.m 0 rfl (WT.n 1 rfl rfl (WT.f 2 0 rfl underlying115 rfl sizeOf24 rfl rfl (WT.l 3 rfl isAgg24 rfl (h.cellB rfl) (WT.m 4 rfl (WT.n 5 rfl rfl (WT.f 6 2 rfl underlying115 rfl sizeOf24 rfl rfl (WT.l 7 rfl isAgg24 rfl (h.cellB rfl) ?_)))))))
 refine WT.m 8 rfl (WT.n 9 rfl rfl (WT.f 10 10 rfl underlying115 rfl sizeOf24 rfl rfl (WT.l 11 rfl isAgg24 rfl (h.cellB rfl) (WT.m 12 rfl (WT.n 13 rfl rfl (WT.f 14 7 rfl underlying115 rfl sizeOf24 rfl rfl (WT.l 15 rfl isAgg24 rfl (h.cellB rfl) ?_)))))))
 refine WT.m 16 rfl (WT.p 17 rfl (fun w' => (run_convIn underlying3 underlying24 rfl (by show (0 : Int) ≤ _; omega) (by show _ ≤ (4294967295 : Int); omega))) (WT.p 18 rfl (fun w' => (run_addU32 (m := c.base) (n := fr) rfl rfl)) (WT.m 21 rfl (WT.e 19 [false, false, false, false] rfl (eff_mkRow (out := ((c.four fr).map (fun v : Nat => Value.int .u32 (v : Int)))) h underlying87 sizeOf24 zeroValue24 rfl (by decide) rfl rfl rfl) ?_))))
 rintro _ w ⟨b44, rfl, h⟩
 refine ⟨trivial, ?_⟩
 refine WT.p 20 rfl (fun w' => (run_lenSlice underlying87 rfl)) (WT.dn (W.block ?_))
 refine W.loop (fun (k : Nat) env w => k ≤ 4 ∧ ∃ (j : Env) (aq : Option Addr) (cq : Nat), env = mkE j [(2, .slice ax bs.length cx), (7, .slice aq (c.packK fr k).length cq), (44, .slice (some ⟨b44, 0, none⟩) 4 4), (45, .int .i64 4), (46, .int .i64 (k : Int))] ∧ On W0 (OwnB (.slice aq (c.packK fr k).length cq) (c.packK fr k) :: Own 1 (.slice (some ⟨b44, 0, none⟩) 4 4) 4 ((c.four fr).map (fun v : Nat => Value.int .u32 (v : Int))) :: L) w) (fun k => 4 - k) (0) ?_ ?_
 · have e0 : [c.kind] = (c.packK fr 0) := by unfold Cn.packK; simp
   have h : On W0 (OwnB (.slice (some ⟨b10, 0, none⟩) 1 1) (c.packK fr 0) :: Own 1 (.slice (some ⟨b44, 0, none⟩) 4 4) 4 ((c.four fr).map (fun v : Nat => Value.int .u32 (v : Int))) :: L) w := by rw [← e0]; exact h.to
   exact ⟨by decide, _, some ⟨b10, 0, none⟩, 1, mkE_of ⟨rfl, rfl, rfl, rfl, rfl, trivial⟩, h⟩
 clear h
 rintro k env w ⟨hk, j, aq, cq, rfl, h⟩
 have hkl := packK_len c fr k hk
 refine W.sr (WL.v (run_lss rfl rfl) (WL.nil (W.seq ?_)))
 refine W.condIf rfl (fun c14 => ?_) (fun c14 => ?_)
 ·
  refine W.skip (W.seq ?_)
  have hk4 : k < 4 := by omega
  have hv_ := four_some c fr hk4
  obtain ⟨v, hv⟩ := hv_
  have hs := packK_succ hv
  have hvl := four_lt hw (List.mem_of_getElem? hv)
  refine W.block (W.sr (WL.v (run_indexAddr underlying87 sizeOf24 rfl rfl (by omega) (by omega)) (WL.l isAgg24 rfl ((h.cellsO (v := .slice (some ⟨b44, 0, none⟩) 4 4)).elem (i := k) (vs := [.int .u32 (v : Int)]) hk4 (four_row hv) 0 _ rfl) (WL.z (W.region ?_)))))
  refine WL.m (WL.m (WL.v (run_convIn underlying24 underlying27 rfl (by show (0 : Int) ≤ _; omega) (by show _ ≤ (18446744073709551615 : Int); omega)) (WL.e (eff_call call38 (bput_ok (bs := (c.packK fr k)) (v := v) (n := 4) h (Gives.ownO (v := .slice aq (c.packK fr k).length cq)) (by decide) (by decide) (by omega) (by omega))) ?_)))
  rintro _ w ⟨a53, rfl, h⟩
  refine WL.z (W.region (WL.v (run_incN rfl rfl (by omega)) (WL.m (WL.nil ?_))))
  rw [← hs] at h
  exact ⟨k + 1, ⟨by omega, _, a53, _, mkE_of ⟨rfl, congrArg (fun q : List UInt8 => Value.slice a53 q.length q.length) hs.symm, rfl, rfl, rfl, trivial⟩, h.to⟩, by show 4 - (k + 1) < 4 - k; omega⟩
 refine W.exit (W.seq ?_)
 have ob_ : k = 4 := by omega
 obtain rfl := ob_
 have ob_ : ∃ P, P = (c.packK fr 4) ++ bs := ⟨_, rfl⟩
 obtain ⟨P, hP⟩ := ob_
 have el : (c.packK fr 4).length + bs.length = P.length := by rw [hP]; exact List.length_append.symm
 have ev : bytesV (c.packK fr 4) ++ bytesV bs = bytesV P := by rw [hP]; simp [bytesV]
 have ep : c.packet fr bs = sealB P := by rw [hP]; rfl
 refine W.region (WL.m (WL.m (WL.e (eff_app (c2 := cx) (bytes := 1) h rfl rfl (h.readsTo C) underlying26 rfl rfl rfl rfl rfl (by omega) (by omega) bytes_one) ?_)))
 rintro _ w ⟨a57, c57, hv57, h⟩
 rw [ev, el] at h
 rw [el] at hv57
 subst hv57
 refine WL.e (eff_call call12 (seal_ok (bs := P) h (Gives.ownO (v := .slice a57 P.length c57)) (by omega))) ?_
 rintro _ w ⟨a58, rfl, h⟩
 refine WL.z (W.ret (bodyQ.r1 (v := .slice _ _ _) results62 rfl ?_))
 rw [ep]
 exact ⟨a58, rfl, h.to⟩
theorem clip_rows {a : Option Addr} {n c : Nat} {xs : List Value} (h : On W0 (Own 1 (.slice a n c) n xs :: L) w) : Calls Tryz.prog 63 #[.slice a n c] w (Ret fun v w' => v = .slice a n n ∧ On W0 (Own 1 (.slice a n n) n xs :: L) w') := by
 refine enter func63 rfl ntmps63 rfl ?_
 have ob_ := Own.form h
 obtain ⟨a', c', hv, hnc, hcm, hnone⟩ := ob_
 simp only [Value.slice.injEq] at hv
 obtain ⟨rfl, _, rfl⟩ := hv
 refine W.sr (WL.z (W.sr (WL.m (WL.m ?_))))
 refine WL.v (run_lenSlice underlying64 rfl) (WL.m (WL.v (run_lenSlice underlying64 rfl) (WL.v (run_cutHM underlying64 sizeOf26 rfl rfl rfl  (by omega) (by omega)) (WL.z (W.ret (bodyQ.r1 (v := .slice _ _ _) results63 rfl ?_))))))
 exact ⟨rfl, Own.clip h⟩
theorem cout_ok {bc : Nat} {c : Cn} (h : On W0 (ConnP 115 bc c :: L) w) : Calls Tryz.prog 25 #[.pointer (some ⟨bc, 0, none⟩)] w (Ret fun v w' => ∃ (rows : List BX) (al : Option Addr), rows.map BX.b = c.outL ∧ v = .slice al rows.length rows.length ∧ On W0 (Own 1 (.slice al rows.length rows.length) rows.length (rows.map BX.v) :: Big OwnBX rows :: ConnP 115 bc c.outC :: L) w') := by
 refine enter func25 rfl ntmps25 rfl ?_
 have ho_ := openCn h
 obtain ⟨ao, co, ai, ci, hw, h⟩ := ho_
 have hw_ := hw
 obtain ⟨⟨hw1, hw2, hw3, hw4⟩, hwo, hwi, hws⟩ := hw_
 have hmx := maxLen_eq
 refine W.sr (WL.z (W.scope (W.sr (WL.a ?_))))
 refine WL.nil (W.seq (W.sr (WL.m (WL.n rfl (WL.c 5 underlying115 rfl sizeOf4 rfl isAgg4 h rfl ?_)))))
 refine WL.nil ?_
 refine W.condB rfl (fun c4 => ?_) (fun c4 => ?_)
 ·
  refine W.sr (WL.z (W.ret (bodyQ.r1 (v := .slice _ _ _) results25 rfl ?_)))
  have h := closeCn hw h
  have h := Big.nil (A := OwnBX) (h.ownEmpty 1 none)
  have h : On W0 (Big OwnBX ([] : List BX) :: Own 1 (.slice none ([] : List BX).length ([] : List BX).length) ([] : List BX).length (([] : List BX).map BX.v) :: _) w := h
  have e2 : c.outC = c := by unfold Cn.outC; rw [c4]; rfl
  rw [e2]
  exact ⟨[], none, (outL_reset c4).symm, rfl, h.to⟩
 refine W.skip (W.seq (W.label ?_))
 refine W.cut (fun env w => ∃ (j : Env) (rows : List BX) (al : Option Addr) (cl s : Nat), (rows.map BX.b = (if c.known then c.chunks 5 c.sent else []) ∧ s = (if c.known then c.out.length else c.sent) ∧ rows.length ≤ 1000000) ∧ env = mkE j [(0, .pointer (some ⟨bc, 0, none⟩)), (3, .slice al rows.length cl)] ∧ On W0 (Own 1 (.slice al rows.length cl) rows.length (rows.map BX.v) :: Big OwnBX rows :: blk bc (pkCells c ao co ai ci s c.say) 115 :: OwnB (.slice ao c.out.length co) c.out :: OwnB (.slice ai c.inb.length ci) c.inb :: L) w) ?_ ?_
 ·
  refine W.block ?_
  refine W.loop (fun (s : Nat) env w => ∃ (j : Env) (f : Nat) (rows : List BX) (al : Option Addr) (cl : Nat), (s ≤ c.out.length ∧ c.out.length - s + 1024 ≤ 1024 * f ∧ rows.length ≤ s) ∧ rows.map BX.b ++ c.chunks f s = c.chunks 5 c.sent ∧ (c.known = false → rows = [] ∧ s = c.sent) ∧ env = mkE j [(0, .pointer (some ⟨bc, 0, none⟩)), (3, .slice al rows.length cl)] ∧ On W0 (Own 1 (.slice al rows.length cl) rows.length (rows.map BX.v) :: Big OwnBX rows :: blk bc (pkCells c ao co ai ci s c.say) 115 :: OwnB (.slice ao c.out.length co) c.out :: OwnB (.slice ai c.inb.length ci) c.inb :: L) w) (fun s => c.out.length - s) (c.sent) ?_ ?_
  · have h := Big.nil (A := OwnBX) (h.ownEmpty 1 none)
    have h : On W0 (Big OwnBX ([] : List BX) :: Own 1 (.slice none ([] : List BX).length 0) ([] : List BX).length (([] : List BX).map BX.v) :: _) w := h
    exact ⟨_, 5, [], none, 0, ⟨hws, by omega, Nat.zero_le _⟩, rfl, fun _ => ⟨rfl, rfl⟩, mkE_of ⟨rfl, rfl, trivial⟩, h.to⟩
  clear h
  rintro s env w ⟨j, f, rows, al, cl, ⟨hs1, hs2, hs3⟩, hch, hkn, rfl, h⟩
  refine W.seq (W.sr (WL.m (WL.n rfl (WL.c 3 underlying115 rfl sizeOf4 rfl isAgg4 h rfl (WL.nil ?_)))))
  refine W.condB rfl (fun c12 => ?_) (fun c12 => ?_)
  ·
   refine W.skip (W.block (W.seq ?_))
   have ob_ : ∃ N, N = min (c.out.length - s) 1024 := ⟨_, rfl⟩
   obtain ⟨N, hN⟩ := ob_
   refine W.draw Tryz.follows h (fun w h => ?_)
   refine WT.m 0 rfl (WT.n 1 rfl rfl (WT.f 2 6 rfl underlying115 rfl sizeOf26 rfl rfl (WT.l 3 rfl isAgg26 rfl (h.cellB rfl) (WT.p 4 rfl (fun w' => (run_lenSlice underlying26 rfl)) (WT.m 5 rfl (WT.n 6 rfl rfl (WT.f 7 8 rfl underlying115 rfl sizeOf3 rfl rfl ?_)))))))
   refine WT.l 8 rfl isAgg3 rfl (h.cellB rfl) (WT.p 9 rfl (fun w' => (run_subN (m := c.out.length) (n := s) rfl rfl hs1 (by omega))) (WT.p 10 rfl (fun w' => (run_minN (m := c.out.length - s) (n := 1024) rfl rfl hN.symm)) (WT.a 11 rfl (WT.dn (W.seq (W.sr ?_))))))
   refine WL.m (WL.v (run_eql rfl rfl) (WL.nil ?_))
   refine W.condIf rfl (fun c18 => ?_) (fun c18 => ?_)
   ·
    refine W.exit ?_
    have hn : min (c.out.length - s) 1024 = 0 := by omega
    rw [chunks_nil hn, List.append_nil] at hch
    exact ⟨_, rows, al, cl, s, ⟨by rw [c12]; exact hch, by rw [c12]; show s = c.out.length; omega, by omega⟩, mkE_of ⟨rfl, rfl, trivial⟩, h⟩
   refine W.skip (W.seq ?_)
   have hN1 : 1 ≤ N := by omega
   have gO : Gives [OwnB (.slice ao c.out.length co) c.out] (Bytes (.slice ao c.out.length co) c.out) := Gives.ownO (v := .slice ao c.out.length co)
   have hob := Own.bounds (h.own (.slice ao c.out.length co))
   have hct := cut_bytes (l := s) (h := s + N) gO hob.1 (by omega) (by omega)
   have ob_ : ∃ X, X = (c.out.drop s).take N := ⟨_, rfl⟩
   obtain ⟨X, hX⟩ := ob_
   rw [show (c.out.drop s).take (s + N - s) = X by rw [hX]; congr 1; omega] at hct
   obtain ⟨aX, cX, hcut, gX⟩ := hct
   have hXl : X.length ≤ 4096 := by rw [hX, List.length_take, List.length_drop]; omega
   have ef : f = f - 1 + 1 := by omega
   have hch2 : (rows ++ [((none : Option Addr), 0, c.packet s X)]).map BX.b ++ c.chunks (f - 1) (s + N) = c.chunks 5 c.sent := by
     rw [← hch, List.map_append, List.append_assoc]
     congr 1
     rw [ef, chunks_cons (by omega), ← hN, ← hX]; rfl
   refine W.draw Tryz.follows h (fun w h => ?_)
   refine WT.m 0 rfl (WT.m 1 rfl (WT.m 2 rfl (WT.n 3 rfl rfl (WT.f 4 8 rfl underlying115 rfl sizeOf3 rfl rfl (WT.l 5 rfl isAgg3 rfl (h.cellB rfl) (WT.m 6 rfl (WT.n 7 rfl rfl ?_)))))))
   refine WT.f 8 6 rfl underlying115 rfl sizeOf26 rfl rfl (WT.l 9 rfl isAgg26 rfl (h.cellB rfl) (WT.m 10 rfl (WT.n 11 rfl rfl (WT.f 12 8 rfl underlying115 rfl sizeOf3 rfl rfl (WT.l 13 rfl isAgg3 rfl (h.cellB rfl) (WT.m 14 rfl (WT.n 15 rfl rfl ?_)))))))
   refine WT.f 16 8 rfl underlying115 rfl sizeOf3 rfl rfl (WT.l 17 rfl isAgg3 rfl (h.cellB rfl) (WT.m 18 rfl (WT.p 19 rfl (fun w' => (run_addN (m := s) (n := N) rfl rfl (by omega))) (WT.p 20 rfl (fun w' => (run_cutLHV (l := s) (h := s + N) underlying26 sizeOf5 rfl rfl rfl (by omega) (by omega) hcut)) (WT.e 21 [false, false, false, false] rfl (eff_call call62 (packet_ok (c := c) (fr := s) (bs := X) hw (by omega) (by omega) h (Gives.to gX))) ?_)))))
   rintro _ w ⟨a47, rfl, h⟩
   refine ⟨trivial, ?_⟩
   refine WT.e 22 [] rfl (eff_mkSlice (zl := [.slice none 0 0]) (out := [.slice _ _ _]) h underlying64 sizeOf26 zeroValue26 (by decide) (by kernel_rfl) rfl rfl (by simp) (⟨⟨_, _, rfl, rfl, by decide⟩, trivial⟩) rfl rfl (by simp [maxLen])) ?_
   rintro _ w ⟨b48, rfl, h⟩
   refine ⟨trivial, ?_⟩
   refine WT.e 23 [] rfl (eff_app (c2 := 1) (bytes := 24) (h.own (.slice al rows.length cl)) rfl rfl (h.cellsO (v := .slice (some ⟨b48, 0, none⟩) 1 1)) underlying64 rfl rfl rfl rfl rfl (by omega) (by omega) (by simp [Value.oneCell'])) ?_
   rintro _ w ⟨a49, c49, rfl, h⟩
   have hch2 : (rows ++ [(a47, (c.packet s X).length, c.packet s X)]).map BX.b ++ c.chunks (f - 1) (s + N) = c.chunks 5 c.sent := by rw [← hch2, List.map_append, List.map_append]; rfl
   have elr : rows.length + 1 = (rows ++ [(a47, (c.packet s X).length, c.packet s X)]).length := by rw [List.length_append]; rfl
   have evr : rows.map BX.v ++ [.slice a47 (c.packet s X).length (c.packet s X).length] = (rows ++ [(a47, (c.packet s X).length, c.packet s X)]).map BX.v := by rw [List.map_append]; rfl
   rw [evr, elr] at h
   have h : On W0 (OwnBX (a47, (c.packet s X).length, c.packet s X) :: Big OwnBX rows :: _) w := (h.fetch (Big OwnBX rows)).fetch (OwnB (.slice a47 (c.packet s X).length (c.packet s X).length) (c.packet s X))
   have h := Big.push h
   refine ⟨trivial, ?_⟩
   refine WT.a 24 rfl (WT.dn (W.region (WL.m (WL.n rfl (WL.c 8 underlying115 rfl sizeOf3 rfl isAgg3 h rfl (WL.m ?_))))))
   refine WL.v (run_addN (m := s) (n := N) rfl rfl (by omega)) (WL.n rfl (WL.f 8 underlying115 rfl sizeOf3 rfl rfl (WL.e (eff_store (v := .int .i64 ((s + N : Nat) : Int)) h sizeOf3 rfl rfl rfl rfl rfl) ?_)))
   rintro _ w h
   simp only [pkCells, List.set_cons_zero, List.set_cons_succ] at h
   refine WL.nil ?_
   exact ⟨s + N, ⟨_, f - 1, rows ++ [(a47, (c.packet s X).length, c.packet s X)], a49, c49, ⟨by omega, by omega, by rw [List.length_append]; show rows.length + 1 ≤ _; omega⟩, hch2, fun e => (by rw [c12] at e; cases e), mkE_of ⟨rfl, congrArg (fun q : Nat => Value.slice a49 q c49) elr, trivial⟩, h.to⟩, by show c.out.length - (s + N) < c.out.length - s; omega⟩
  refine W.exit ?_
  have hk := hkn c12
  exact ⟨_, rows, al, cl, s, ⟨by rw [c12, hk.1]; rfl, by rw [c12, hk.2]; rfl, by rw [hk.1]; exact Nat.zero_le _⟩, mkE_of ⟨rfl, rfl, trivial⟩, h⟩
 clear h
 rintro env w ⟨j, rows, al, cl, s, ⟨hr1, hr2, hr3⟩, rfl, h⟩
 refine W.cut (fun env w => ∃ (j : Env) (rows : List BX) (al : Option Addr) (cl : Nat), rows.map BX.b = c.outL ∧ env = mkE j [(0, .pointer (some ⟨bc, 0, none⟩)), (3, .slice al rows.length cl)] ∧ On W0 (Own 1 (.slice al rows.length cl) rows.length (rows.map BX.v) :: Big OwnBX rows :: blk bc (pkCells c ao co ai ci s c.say) 115 :: OwnB (.slice ao c.out.length co) c.out :: OwnB (.slice ai c.inb.length ci) c.inb :: L) w) ?_ ?_
 ·
  refine W.sr (WL.m (WL.n rfl (WL.f 11 underlying115 rfl sizeOf4 rfl rfl ?_)))
  refine WL.boolB (run_load1 isAgg4 rfl (h.cellB rfl)) rfl rfl (fun c61 => ?_) (fun c61 => ?_)
  ·
   refine WL.m (WL.m (WL.v (run_lenSlice underlying64 rfl) (WL.v (run_eql rfl rfl) (WL.pt (WL.nil ?_)))))
   refine W.condIf rfl (fun c24 => ?_) (fun c24 => ?_)
   ·
    refine W.region (WL.m (WL.m (WL.m (WL.n rfl (WL.c 8 underlying115 rfl sizeOf3 rfl isAgg3 h rfl (WL.e (eff_call call62 (packet_ok (c := c) (fr := s) (bs := []) hw (by rw [hr2]; split <;> omega) (by decide) h Gives.nilB)) ?_))))))
    rintro _ w ⟨a73, rfl, h⟩
    refine WL.e (eff_mkSlice (zl := [.slice none 0 0]) (out := [.slice _ _ _]) h underlying64 sizeOf26 zeroValue26 (by decide) (by kernel_rfl) rfl rfl (by simp) (⟨⟨_, _, rfl, rfl, by decide⟩, trivial⟩) rfl rfl (by simp [maxLen])) ?_
    rintro _ w ⟨b74, rfl, h⟩
    refine WL.e (eff_app (c2 := 1) (bytes := 24) (h.own (.slice al rows.length cl)) rfl rfl (h.cellsO (v := .slice (some ⟨b74, 0, none⟩) 1 1)) underlying64 rfl rfl rfl rfl rfl (by omega) (by omega) (by simp [Value.oneCell'])) ?_
    rintro _ w ⟨a75, c75, rfl, h⟩
    have elr : rows.length + 1 = (rows ++ [(a73, (c.packet s []).length, c.packet s [])]).length := by rw [List.length_append]; rfl
    have evr : rows.map BX.v ++ [.slice a73 (c.packet s []).length (c.packet s []).length] = (rows ++ [(a73, (c.packet s []).length, c.packet s [])]).map BX.v := by rw [List.map_append]; rfl
    rw [evr, elr] at h
    have h : On W0 (OwnBX (a73, (c.packet s []).length, c.packet s []) :: Big OwnBX rows :: _) w := (h.fetch (Big OwnBX rows)).fetch (OwnB (.slice a73 (c.packet s []).length (c.packet s []).length) (c.packet s []))
    have h := Big.push h
    refine WL.z ?_
    exact ⟨_, rows ++ [(a73, (c.packet s []).length, c.packet s [])], a75, c75, (by rw [outL_say c4 hr1 c61 (by omega), ← hr2, List.eq_nil_of_length_eq_zero (show rows.length = 0 by omega)]; rfl), mkE_of ⟨rfl, congrArg (fun q : Nat => Value.slice a75 q c75) elr, trivial⟩, h.to⟩
   refine W.skip ?_
   exact ⟨_, rows, al, cl, (outL_rows c4 hr1 (.inr (by omega))).symm, mkE_of ⟨rfl, rfl, trivial⟩, h⟩
  refine WL.m (WL.s (WL.s (WL.s (WL.pf (WL.nil (W.cs ?_))))))
  exact ⟨_, rows, al, cl, (outL_rows c4 hr1 (.inl c61)).symm, mkE_of ⟨rfl, rfl, trivial⟩, h⟩
 clear h
 rintro env w ⟨j, rows, al, cl, hrw, rfl, h⟩
 refine W.sr (WL.m (WL.n rfl (WL.f 11 underlying115 rfl sizeOf4 rfl rfl (WL.e (eff_store (v := .bool false) h sizeOf4 rfl rfl rfl rfl rfl) ?_))))
 rintro _ w h
 simp only [pkCells, List.set_cons_zero, List.set_cons_succ] at h
 refine WL.nil (W.sr (WL.m (WL.e (eff_call call63 (clip_rows (h.own (.slice al rows.length cl)))) ?_)))
 rintro _ w ⟨rfl, h⟩
 refine WL.z (W.ret (bodyQ.r1 (v := .slice _ _ _) results25 rfl ?_))
 have e2 : c.outC = { c with sent := s, say := false } := by unfold Cn.outC; rw [c4, hr2]; rfl
 have h := closeCn (c := { c with sent := s, say := false }) (ao := ao) (co := co) (ai := ai) (ci := ci) ⟨⟨hw1, hw2, hw3, hw4⟩, hwo, hwi, (by show s ≤ c.out.length; rw [hr2]; split <;> omega)⟩ (((h.fetch (OwnB (.slice ai c.inb.length ci) c.inb)).fetch (OwnB (.slice ao c.out.length co) c.out)).fetch (blk bc (pkCells c ao co ai ci s false) 115))
 rw [e2]
 exact ⟨rows, al, hrw, rfl, h.to⟩
theorem ctick_ok {bc : Nat} {c : Cn} (h : On W0 (ConnP 115 bc c :: L) w) : Calls Tryz.prog 24 #[.pointer (some ⟨bc, 0, none⟩)] w (Ret fun v w' => On W0 (ConnP 115 bc c.tick :: L) w') := by
 refine enter func24 rfl ntmps24 rfl ?_
 have ho_ := openCn h
 obtain ⟨ao, co, ai, ci, hw, h⟩ := ho_
 have hw_ := hw
 obtain ⟨⟨hw1, hw2, hw3, hw4⟩, hwo, hwi, hws⟩ := hw_
 have hmx := maxLen_eq
 refine W.sr (WL.m (WL.n rfl (WL.f 8 underlying115 rfl sizeOf3 rfl rfl (WL.e (eff_store (v := .int .i64 0) h sizeOf3 rfl rfl rfl rfl rfl) ?_))))
 rintro _ w h
 simp only [cnCells, pkCells, List.set_cons_zero, List.set_cons_succ] at h
 refine WL.nil (W.region (WL.m (WL.m (WL.n rfl (WL.f 11 underlying115 rfl sizeOf4 rfl rfl ?_)))))
 refine WL.boolB (run_load1 isAgg4 rfl (h.cellB rfl)) rfl rfl (fun c9 => ?_) (fun c9 => ?_)
 ·
  refine WL.m (WL.s (WL.s (WL.s (WL.s (WL.s (WL.s (WL.s ?_)))))))
  refine WL.s (WL.s (WL.s (WL.s (WL.pt (WL.m (WL.s (WL.s ?_)))))))
  refine WL.s (WL.s (WL.s (WL.s (WL.s (WL.s (WL.s (WL.s ?_)))))))
  refine WL.s (WL.pt (WL.m (WL.s (WL.s (WL.s (WL.s (WL.s ?_)))))))
  refine WL.s (WL.pt (WL.n rfl (WL.f 11 underlying115 rfl sizeOf4 rfl rfl (WL.e (eff_store (v := .bool c.tick.say) h sizeOf4 rfl (congrArg Value.bool ((by show _ = (c.say || (c.first && !c.known) || (c.known && !c.met) || decide (0 < c.out.length)); simp only [c9, Bool.not_true, Bool.not_false, Bool.and_true, Bool.and_false, Bool.or_false, Bool.or_true, Bool.true_or, Bool.false_or, Bool.true_and, Bool.false_and]; all_goals rfl))) rfl rfl rfl) ?_))))
  rintro _ w h
  refine WL.nil (bodyQ.fall (bodyQ.r0 results24 ?_))
  exact closeCn (c := c.tick) (ao := ao) (co := co) (ai := ai) (ci := ci) ⟨⟨hw1, hw2, hw3, hw4⟩, hwo, hwi, Nat.zero_le _⟩ h
 refine WL.m (WL.m (WL.n rfl (WL.f 1 underlying115 rfl sizeOf4 rfl rfl ?_)))
 refine WL.boolB (run_load1 isAgg4 rfl (h.cellB rfl)) rfl rfl (fun c14 => ?_) (fun c14 => ?_)
 ·
  refine WL.m (WL.m (WL.n rfl (WL.f 3 underlying115 rfl sizeOf4 rfl rfl ?_)))
  refine WL.boolB (run_load1 isAgg4 rfl (h.cellB rfl)) rfl rfl (fun c19 => ?_) (fun c19 => ?_)
  ·
   refine WL.v (run_not rfl) (WL.pt (WL.pf (WL.m (WL.m (WL.n rfl (WL.f 3 underlying115 rfl sizeOf4 rfl rfl ?_))))))
   refine WL.boolB (run_load1 isAgg4 rfl (h.cellB rfl)) rfl rfl (fun c27 => ?_) (fun c27 => ?_)
   ·
    refine WL.m (WL.m (WL.n rfl (WL.f 4 underlying115 rfl sizeOf4 rfl rfl ?_)))
    refine WL.boolB (run_load1 isAgg4 rfl (h.cellB rfl)) rfl rfl (fun c32 => ?_) (fun c32 => ?_)
    ·
     refine WL.v (run_not rfl) (WL.pt (WL.pf (WL.m (WL.m (WL.n rfl (WL.c 6 underlying115 rfl sizeOf26 rfl isAgg26 h rfl ?_))))))
     refine WL.v (run_lenSlice underlying26 rfl) (WL.v (run_gtr rfl rfl) (WL.pf (WL.n rfl (WL.f 11 underlying115 rfl sizeOf4 rfl rfl ?_))))
     refine WL.e (eff_store (v := .bool c.tick.say) h sizeOf4 rfl (congrArg Value.bool ((by show _ = (c.say || (c.first && !c.known) || (c.known && !c.met) || decide (0 < c.out.length)); simp only [c9, c14, c19, c32, Bool.not_true, Bool.not_false, Bool.and_true, Bool.and_false, Bool.or_false, Bool.or_true, Bool.true_or, Bool.false_or, Bool.true_and, Bool.false_and]; exact decide_eq_decide.2 (by omega)))) rfl rfl rfl) ?_
     rintro _ w h
     refine WL.nil (bodyQ.fall (bodyQ.r0 results24 ?_))
     exact closeCn (c := c.tick) (ao := ao) (co := co) (ai := ai) (ci := ci) ⟨⟨hw1, hw2, hw3, hw4⟩, hwo, hwi, Nat.zero_le _⟩ h
    refine WL.v (run_not rfl) (WL.pt (WL.pf (WL.m (WL.s (WL.s (WL.s (WL.s ?_)))))))
    refine WL.s (WL.s (WL.pt (WL.n rfl (WL.f 11 underlying115 rfl sizeOf4 rfl rfl ?_))))
    refine WL.e (eff_store (v := .bool c.tick.say) h sizeOf4 rfl (congrArg Value.bool ((by show _ = (c.say || (c.first && !c.known) || (c.known && !c.met) || decide (0 < c.out.length)); simp only [c9, c14, c19, c32, Bool.not_true, Bool.not_false, Bool.and_true, Bool.and_false, Bool.or_false, Bool.or_true, Bool.true_or, Bool.false_or, Bool.true_and, Bool.false_and]; all_goals rfl))) rfl rfl rfl) ?_
    rintro _ w h
    refine WL.nil (bodyQ.fall (bodyQ.r0 results24 ?_))
    exact closeCn (c := c.tick) (ao := ao) (co := co) (ai := ai) (ci := ci) ⟨⟨hw1, hw2, hw3, hw4⟩, hwo, hwi, Nat.zero_le _⟩ h
   refine WL.m (WL.s (WL.s (WL.s (WL.s (WL.s (WL.pf (WL.pf ?_)))))))
   refine WL.m (WL.m (WL.n rfl (WL.c 6 underlying115 rfl sizeOf26 rfl isAgg26 h rfl (WL.v (run_lenSlice underlying26 rfl) (WL.v (run_gtr rfl rfl) (WL.pf ?_))))))
   refine WL.n rfl (WL.f 11 underlying115 rfl sizeOf4 rfl rfl (WL.e (eff_store (v := .bool c.tick.say) h sizeOf4 rfl (congrArg Value.bool (by rw [c19] at c27; cases c27)) rfl rfl rfl) ?_))
   rintro _ w h
   refine WL.nil (bodyQ.fall (bodyQ.r0 results24 ?_))
   exact closeCn (c := c.tick) (ao := ao) (co := co) (ai := ai) (ci := ci) ⟨⟨hw1, hw2, hw3, hw4⟩, hwo, hwi, Nat.zero_le _⟩ h
  refine WL.v (run_not rfl) (WL.pt (WL.pf (WL.m (WL.s (WL.s (WL.s (WL.s ?_)))))))
  refine WL.s (WL.s (WL.s (WL.s (WL.s (WL.s (WL.s (WL.pt ?_)))))))
  refine WL.m (WL.s (WL.s (WL.s (WL.s (WL.s (WL.s (WL.pt ?_)))))))
  refine WL.n rfl (WL.f 11 underlying115 rfl sizeOf4 rfl rfl ?_)
  refine WL.e (eff_store (v := .bool c.tick.say) h sizeOf4 rfl (congrArg Value.bool ((by show _ = (c.say || (c.first && !c.known) || (c.known && !c.met) || decide (0 < c.out.length)); simp only [c9, c14, c19, Bool.not_true, Bool.not_false, Bool.and_true, Bool.and_false, Bool.or_false, Bool.or_true, Bool.true_or, Bool.false_or, Bool.true_and, Bool.false_and]; all_goals rfl))) rfl rfl rfl) ?_
  rintro _ w h
  refine WL.nil (bodyQ.fall (bodyQ.r0 results24 ?_))
  exact closeCn (c := c.tick) (ao := ao) (co := co) (ai := ai) (ci := ci) ⟨⟨hw1, hw2, hw3, hw4⟩, hwo, hwi, Nat.zero_le _⟩ h
 refine WL.m (WL.s (WL.s (WL.s (WL.s (WL.s (WL.pf (WL.pf ?_)))))))
 refine WL.m (WL.m (WL.n rfl (WL.f 3 underlying115 rfl sizeOf4 rfl rfl ?_)))
 refine WL.boolB (run_load1 isAgg4 rfl (h.cellB rfl)) rfl rfl (fun c27 => ?_) (fun c27 => ?_)
 ·
  refine WL.m (WL.m (WL.n rfl (WL.f 4 underlying115 rfl sizeOf4 rfl rfl ?_)))
  refine WL.boolB (run_load1 isAgg4 rfl (h.cellB rfl)) rfl rfl (fun c32 => ?_) (fun c32 => ?_)
  ·
   refine WL.v (run_not rfl) (WL.pt (WL.pf (WL.m (WL.m (WL.n rfl (WL.c 6 underlying115 rfl sizeOf26 rfl isAgg26 h rfl ?_))))))
   refine WL.v (run_lenSlice underlying26 rfl) (WL.v (run_gtr rfl rfl) (WL.pf (WL.n rfl (WL.f 11 underlying115 rfl sizeOf4 rfl rfl ?_))))
   refine WL.e (eff_store (v := .bool c.tick.say) h sizeOf4 rfl (congrArg Value.bool ((by show _ = (c.say || (c.first && !c.known) || (c.known && !c.met) || decide (0 < c.out.length)); simp only [c9, c14, c27, c32, Bool.not_true, Bool.not_false, Bool.and_true, Bool.and_false, Bool.or_false, Bool.or_true, Bool.true_or, Bool.false_or, Bool.true_and, Bool.false_and]; exact decide_eq_decide.2 (by omega)))) rfl rfl rfl) ?_
   rintro _ w h
   refine WL.nil (bodyQ.fall (bodyQ.r0 results24 ?_))
   exact closeCn (c := c.tick) (ao := ao) (co := co) (ai := ai) (ci := ci) ⟨⟨hw1, hw2, hw3, hw4⟩, hwo, hwi, Nat.zero_le _⟩ h
  refine WL.v (run_not rfl) (WL.pt (WL.pf (WL.m (WL.s (WL.s (WL.s (WL.s ?_)))))))
  refine WL.s (WL.s (WL.pt (WL.n rfl (WL.f 11 underlying115 rfl sizeOf4 rfl rfl ?_))))
  refine WL.e (eff_store (v := .bool c.tick.say) h sizeOf4 rfl (congrArg Value.bool ((by show _ = (c.say || (c.first && !c.known) || (c.known && !c.met) || decide (0 < c.out.length)); simp only [c9, c14, c27, c32, Bool.not_true, Bool.not_false, Bool.and_true, Bool.and_false, Bool.or_false, Bool.or_true, Bool.true_or, Bool.false_or, Bool.true_and, Bool.false_and]; all_goals rfl))) rfl rfl rfl) ?_
  rintro _ w h
  refine WL.nil (bodyQ.fall (bodyQ.r0 results24 ?_))
  exact closeCn (c := c.tick) (ao := ao) (co := co) (ai := ai) (ci := ci) ⟨⟨hw1, hw2, hw3, hw4⟩, hwo, hwi, Nat.zero_le _⟩ h
 refine WL.m (WL.s (WL.s (WL.s (WL.s (WL.s (WL.pf (WL.pf ?_)))))))
 refine WL.m (WL.m (WL.n rfl (WL.c 6 underlying115 rfl sizeOf26 rfl isAgg26 h rfl (WL.v (run_lenSlice underlying26 rfl) (WL.v (run_gtr rfl rfl) (WL.pf ?_))))))
 refine WL.n rfl (WL.f 11 underlying115 rfl sizeOf4 rfl rfl ?_)
 refine WL.e (eff_store (v := .bool c.tick.say) h sizeOf4 rfl (congrArg Value.bool ((by show _ = (c.say || (c.first && !c.known) || (c.known && !c.met) || decide (0 < c.out.length)); simp only [c9, c14, c27, Bool.not_true, Bool.not_false, Bool.and_true, Bool.and_false, Bool.or_false, Bool.or_true, Bool.true_or, Bool.false_or, Bool.true_and, Bool.false_and]; exact decide_eq_decide.2 (by omega)))) rfl rfl rfl) ?_
 rintro _ w h
 refine WL.nil (bodyQ.fall (bodyQ.r0 results24 ?_))
 exact closeCn (c := c.tick) (ao := ao) (co := co) (ai := ai) (ci := ci) ⟨⟨hw1, hw2, hw3, hw4⟩, hwo, hwi, Nat.zero_le _⟩ h
theorem ctake_ok {ax : Option Addr} {cx : Nat} {bs : List UInt8} {bc ack at_ : Nat} {c : Cn} (ha : ack < 4294967296) (hat : at_ < 4294967296) (hb : bs.length ≤ 1000000) (h : On W0 (ConnP 115 bc c :: L) w) (C : Gives L (Bytes (.slice ax bs.length cx) bs)) : Calls Tryz.prog 64 #[.pointer (some ⟨bc, 0, none⟩), .int .u32 (ack : Int), .int .u32 (at_ : Int), .slice ax bs.length cx] w (Ret fun v w' => On W0 (ConnP 115 bc (c.take ack at_ bs) :: L) w') := by
 refine enter func64 rfl ntmps64 rfl ?_
 have ho_ := openCn h
 obtain ⟨ao, co, ai, ci, hw, h⟩ := ho_
 have hw_ := hw
 obtain ⟨hwn, hwo, hwi, hws⟩ := hw_
 have hmx := maxLen_eq
 have hbd := (h.readsTo C).bounds
 obtain ⟨hbc, hbm⟩ := hbd
 refine W.cut (fun env w => ∃ (j : Env), env = mkE j [(0, .pointer (some ⟨bc, 0, none⟩)), (2, .int .u32 (at_ : Int)), (3, .slice ax bs.length cx)] ∧ On W0 (ConnP 115 bc (c.ackd ack) :: L) w) ?_ ?_
 ·
  refine W.sr (WL.m (WL.n rfl (WL.c 7 underlying115 rfl sizeOf24 rfl isAgg24 h rfl (WL.m (WL.e (eff_call call99 (gap_ok hwn.2.2.1 ha h)) ?_)))))
  rintro _ w ⟨g, hg, hgb, rfl, h⟩
  refine WL.z (W.sr (WL.m ?_))
  refine WL.q (run_gtr rfl rfl) (fun c17 => ?_) (fun c17 => ?_)
  ·
   refine WL.m (WL.m (WL.m (WL.n rfl (WL.c 6 underlying115 rfl sizeOf26 rfl isAgg26 h rfl (WL.v (run_lenSlice underlying26 rfl) (WL.v (run_leq rfl rfl) ?_))))))
   refine WL.pt (WL.nil ?_)
   refine W.condIf rfl (fun c2 => ?_) (fun c2 => ?_)
   ·
    refine W.seq ?_
    have ob_ := Int.eq_ofNat_of_zero_le (show 0 ≤ g by omega)
    obtain ⟨N, hN⟩ := ob_
    have hNl : N ≤ c.out.length := by omega
    have gO : Gives [OwnB (.slice ao c.out.length co) c.out] (Bytes (.slice ao c.out.length co) c.out) := Gives.ownO (v := .slice ao c.out.length co)
    have hob := Own.bounds (h.own (.slice ao c.out.length co))
    have hct := cut_bytes (l := N) (h := c.out.length) gO hob.1 hNl (Nat.le_refl _)
    have ob_ : ∃ X, X = c.out.drop N := ⟨_, rfl⟩
    obtain ⟨X, hX⟩ := ob_
    rw [show (c.out.drop N).take (c.out.length - N) = X by rw [hX]; exact List.take_of_length_le (by rw [List.length_drop]; omega)] at hct
    obtain ⟨aX, cX, hcut, gX⟩ := hct
    have hXl : X.length = c.out.length - N := by rw [hX, List.length_drop]
    have hack : c.ackd ack = { c with out := X, base := ack, sent := c.sent - N } := by rw [ackd_yes hg c17 c2 hN, hX]
    refine W.region (WL.m (WL.m (WL.m (WL.n rfl (WL.c 6 underlying115 rfl sizeOf26 rfl isAgg26 h rfl (WL.m ?_))))))
    refine WL.v (run_cutLV (n := c.out.length) (l := N) underlying26 sizeOf5 rfl (congrArg (Value.int .i64) hN) hNl hcut) (WL.e (eff_call call47 (clone_bytes h (Gives.to (T := [OwnB (.slice ao c.out.length co) c.out]) gX) (by omega))) ?_)
    rintro _ w ⟨a35, c35, rfl, h⟩
    refine WL.m (WL.n rfl (WL.f 6 underlying115 rfl sizeOf26 rfl rfl (WL.e (eff_store (v := .slice a35 X.length c35) h sizeOf26 rfl rfl rfl rfl rfl) ?_)))
    rintro _ w h
    simp only [cnCells, pkCells, List.set_cons_zero, List.set_cons_succ] at h
    refine WL.n rfl (WL.f 7 underlying115 rfl sizeOf24 rfl rfl (WL.e (eff_store (v := .int .u32 (ack : Int)) h sizeOf24 rfl rfl rfl rfl rfl) ?_))
    rintro _ w h
    simp only [cnCells, pkCells, List.set_cons_zero, List.set_cons_succ] at h
    refine WL.nil (W.region (WL.m (WL.m (WL.n rfl (WL.c 8 underlying115 rfl sizeOf3 rfl isAgg3 h rfl (WL.m ?_))))))
    refine WL.v (run_sub rfl rfl (by omega) (by omega)) (WL.v (run_maxI rfl rfl) (WL.n rfl (WL.f 8 underlying115 rfl sizeOf3 rfl rfl (WL.e (eff_store (v := .int .i64 ((c.sent - N : Nat) : Int)) h sizeOf3 rfl (congrArg (Value.int .i64) (show max ((c.sent : Int) - g) 0 = _ by omega)) rfl rfl rfl) ?_))))
    rintro _ w h
    simp only [cnCells, pkCells, List.set_cons_zero, List.set_cons_succ] at h
    refine WL.nil ?_
    have h := closeCn (T := 115) (b := bc) (c := { c with out := X, base := ack, sent := c.sent - N }) (ao := a35) (co := c35) (ai := ai) (ci := ci) ⟨⟨hwn.1, hwn.2.1, ha, hwn.2.2.2⟩, by show X.length ≤ 4096; omega, hwi, by show c.sent - N ≤ X.length; omega⟩ (((h.fetch (OwnB (.slice ai c.inb.length ci) c.inb)).fetch (OwnB (.slice a35 X.length c35) X)).fetch (blk bc _ 115))
    rw [hack]
    exact ⟨_, mkE_of ⟨rfl, rfl, rfl, trivial⟩, h.to⟩
   refine W.skip ?_
   have e : c.ackd ack = c := ackd_no hg (by omega)
   rw [e]
   exact ⟨_, mkE_of ⟨rfl, rfl, rfl, trivial⟩, closeCn hw h⟩
  refine WL.m (WL.s (WL.s (WL.s (WL.s (WL.s (WL.s (WL.s ?_)))))))
  refine WL.pf (WL.nil (W.cs ?_))
  have e : c.ackd ack = c := ackd_no hg (by omega)
  rw [e]
  exact ⟨_, mkE_of ⟨rfl, rfl, rfl, trivial⟩, closeCn hw h⟩
 clear h
 rintro env w ⟨j, rfl, h⟩
 clear hw hwn hwo hwi hws
 have ob_ : ∃ c1, c1 = c.ackd ack := ⟨_, rfl⟩
 obtain ⟨c1, hc1⟩ := ob_
 have etk : c.take ack at_ bs = c1.takes at_ bs := by rw [hc1]; rfl
 rw [etk]
 rw [← hc1] at h
 have ho_ := openCn (c := c1) h
 obtain ⟨ao, co, ai, ci, hw, h⟩ := ho_
 have hw_ := hw
 obtain ⟨hwn, hwo, hwi, hws⟩ := hw_
 have hmx := maxLen_eq
 refine W.seq (W.sr (WL.m (WL.v (run_lenSlice underlying26 rfl) (WL.v (run_eql rfl rfl) (WL.nil ?_)))))
 refine W.condIf rfl (fun c7 => ?_) (fun c7 => ?_)
 ·
  refine W.ret (bodyQ.r0 results64 ?_)
  have e : c1.takes at_ bs = c1 := takes_nil (by omega)
  rw [e]
  exact closeCn hw h
 refine W.skip (W.seq ?_)
 have hne : ¬ bs.length = 0 := by omega
 refine W.region (WL.m (WL.n rfl (WL.f 11 underlying115 rfl sizeOf4 rfl rfl (WL.e (eff_store (v := .bool true) h sizeOf4 rfl rfl rfl rfl rfl) ?_))))
 rintro _ w h
 simp only [cnCells, pkCells, List.set_cons_zero, List.set_cons_succ] at h
 refine WL.nil (W.sr (WL.m (WL.m (WL.n rfl (WL.c 10 underlying115 rfl sizeOf24 rfl isAgg24 h rfl ?_)))))
 refine WL.e (eff_call call99 (gap_ok hat hwn.2.2.2 h)) ?_
 rintro _ w ⟨q, hq, hqb, rfl, h⟩
 refine WL.z (W.seq (W.sr (WL.m ?_)))
 refine WL.q (run_lss rfl rfl) (fun c64 => ?_) (fun c64 => ?_)
 ·
  refine WL.m (WL.s (WL.s (WL.s (WL.s (WL.pt (WL.nil (W.ct ?_)))))))
  refine W.ret (bodyQ.r0 results64 ?_)
  have e : c1.takes at_ bs = { c1 with say := true } := takes_no hq hne (by omega)
  rw [e]
  exact closeCn (c := { c1 with say := true }) (ao := ao) (co := co) (ai := ai) (ci := ci) hw h
 refine WL.m (WL.m (WL.m (WL.v (run_lenSlice underlying26 rfl) (WL.v (run_geq rfl rfl) (WL.pf (WL.nil ?_))))))
 refine W.condIf rfl (fun c13 => ?_) (fun c13 => ?_)
 ·
  refine W.ret (bodyQ.r0 results64 ?_)
  have e : c1.takes at_ bs = { c1 with say := true } := takes_no hq hne (by omega)
  rw [e]
  exact closeCn (c := { c1 with say := true }) (ao := ao) (co := co) (ai := ai) (ci := ci) hw h
 refine W.skip (W.seq ?_)
 have ob_ := Int.eq_ofNat_of_zero_le (show 0 ≤ q by omega)
 obtain ⟨G, hG⟩ := ob_
 have hGl : G ≤ bs.length := by omega
 have hct := cut_bytes (l := G) (h := bs.length) C hbc hGl (Nat.le_refl _)
 have ob_ : ∃ X, X = bs.drop G := ⟨_, rfl⟩
 obtain ⟨X, hX⟩ := ob_
 rw [show (bs.drop G).take (bs.length - G) = X by rw [hX]; exact List.take_of_length_le (by rw [List.length_drop]; omega)] at hct
 obtain ⟨aX, cX, hcut, gX⟩ := hct
 have hXl : X.length = bs.length - G := by rw [hX, List.length_drop]
 have hxb := (h.reads (Gives.to gX)).bounds
 have ob_ : ∃ N, min X.length (4096 - c1.inb.length) = N := ⟨_, rfl⟩
 obtain ⟨N, hN⟩ := ob_
 have ob_ : ∃ Y, Y = X.take N := ⟨_, rfl⟩
 obtain ⟨Y, hY⟩ := ob_
 have hYl : Y.length = N := by rw [hY, List.length_take]; omega
 have gY : Gives L (Bytes (.slice aX Y.length cX) Y) := by rw [hY]; exact front_bytes gX (by omega)
 have eY : (bs.drop G).take (4096 - c1.inb.length) = Y := by
   rw [hY, ← hX, ← hN]
   have ob_ := Nat.le_total X.length (4096 - c1.inb.length)
   rcases ob_ with hx | hx
   · rw [List.take_of_length_le hx, Nat.min_eq_left hx, List.take_of_length_le (Nat.le_refl _)]
   rw [Nat.min_eq_right hx]
 refine W.region (WL.m (WL.m (WL.v (run_cutLV (n := bs.length) (l := G) underlying26 sizeOf5 rfl (congrArg (Value.int .i64) hG) hGl hcut) (WL.z (W.sr ?_)))))
 refine WL.m (WL.m (WL.v (run_lenSlice underlying26 rfl) (WL.m (WL.n rfl (WL.c 9 underlying115 rfl sizeOf26 rfl isAgg26 h rfl (WL.v (run_lenSlice underlying26 rfl) ?_))))))
 refine WL.v (run_subN (m := 4096) (n := c1.inb.length) rfl rfl hwi (by omega)) (WL.v (run_minN (m := X.length) (n := 4096 - c1.inb.length) rfl rfl hN) (WL.v (run_cutHV (h := N) underlying26 sizeOf5 rfl rfl (by have := hxb.1; omega) hYl.symm) (WL.z (W.sr (WL.m ?_)))))
 refine WL.m (WL.n rfl (WL.c 9 underlying115 rfl sizeOf26 rfl isAgg26 h rfl (WL.m (WL.e (eff_app (c2 := cX) (bytes := 1) (h.own (.slice ai c1.inb.length ci)) rfl rfl (h.readsTo gY) underlying26 rfl rfl rfl rfl rfl (by omega) (by omega) bytes_one) ?_))))
 rintro _ w ⟨a91, c91, hv91, h⟩
 have el : c1.inb.length + Y.length = (c1.inb ++ Y).length := List.length_append.symm
 have ev : bytesV c1.inb ++ bytesV Y = bytesV (c1.inb ++ Y) := by simp [bytesV]
 rw [ev, el] at h
 rw [el] at hv91
 subst hv91
 refine WL.n rfl (WL.f 9 underlying115 rfl sizeOf26 rfl rfl (WL.e (eff_store (v := .slice a91 (c1.inb ++ Y).length c91) h sizeOf26 rfl rfl rfl rfl rfl) ?_))
 rintro _ w h
 simp only [cnCells, pkCells, List.set_cons_zero, List.set_cons_succ] at h
 refine WL.nil (W.region (WL.m (WL.n rfl (WL.c 10 underlying115 rfl sizeOf24 rfl isAgg24 h rfl (WL.m (WL.v (run_lenSlice underlying26 rfl) ?_))))))
 refine WL.v (run_convIn underlying3 underlying24 rfl (by show (0 : Int) ≤ _; omega) (by show _ ≤ (4294967295 : Int); omega)) (WL.v (run_addU32 (m := c1.got) (n := Y.length) rfl rfl) (WL.n rfl (WL.f 10 underlying115 rfl sizeOf24 rfl rfl (WL.e (eff_store (v := .int .u32 (((c1.got + Y.length) % 4294967296 : Nat) : Int)) h sizeOf24 rfl rfl rfl rfl rfl) ?_))))
 rintro _ w h
 simp only [cnCells, pkCells, List.set_cons_zero, List.set_cons_succ] at h
 refine WL.nil (bodyQ.fall (bodyQ.r0 results64 ?_))
 have e := takes_yes hq hne (by omega) hG eY
 rw [e]
 exact closeCn (T := 115) (b := bc) (c := { c1 with say := true, inb := c1.inb ++ Y, got := (c1.got + Y.length) % 4294967296 }) (ao := ao) (co := co) (ai := a91) (ci := c91) ⟨⟨hwn.1, hwn.2.1, hwn.2.2.1, by show (c1.got + Y.length) % 4294967296 < _; omega⟩, hwo, by show (c1.inb ++ Y).length ≤ 4096; rw [← el]; omega, hws⟩ (((h.fetch (OwnB (.slice a91 (c1.inb ++ Y).length c91) (c1.inb ++ Y))).fetch (OwnB (.slice ao c1.out.length co) c1.out)).fetch (blk bc _ 115))
theorem cin_ok {ax : Option Addr} {cx : Nat} {bs : List UInt8} {bc : Nat} {c : Cn} (hb : bs.length ≤ 1000000) (h : On W0 (ConnP 115 bc c :: L) w) (C : Gives L (Bytes (.slice ax bs.length cx) bs)) : Calls Tryz.prog 26 #[.pointer (some ⟨bc, 0, none⟩), .slice ax bs.length cx] w (Ret fun v w' => On W0 (ConnP 115 bc (c.inP bs) :: L) w') := by
 refine enter func26 rfl ntmps26 rfl ?_
 have ho_ := openCn h
 obtain ⟨ao, co, ai, ci, hw, h⟩ := ho_
 have hw_ := hw
 obtain ⟨hwn, hwo, hwi, hws⟩ := hw_
 have hmx := maxLen_eq
 have hbd := (h.readsTo C).bounds
 obtain ⟨hbc, hbm⟩ := hbd
 refine W.sr (WL.m (WL.e (eff_call call11 (open_ok h (Gives.to C) (by omega))) ?_))
 rintro _ w hv
 rcases hv with ⟨ho2, h4, a, rfl, h⟩ | ⟨ho2, rfl, h⟩
 ·
  have ob_ : ∃ B, B = bs.take (bs.length - 4) := ⟨_, rfl⟩
  obtain ⟨B, hB⟩ := ob_
  have hoB := openB_fst ho2
  rw [← hB] at hoB h ⊢
  have hBl : B.length = bs.length - 4 := by rw [hB, List.length_take]; omega
  refine WL.m (WL.v (run_extract rfl rfl) (WL.v (run_extract rfl rfl) (WL.a (WL.z (W.seq (W.seq ?_))))))
  refine W.region (WL.m (WL.v (run_neqF rfl rfl (rfl)) (WL.m (WL.m (WL.v (run_lenSlice underlying26 rfl) ?_)))))
  refine WL.q (run_lss rfl rfl) (fun c24 => ?_) (fun c24 => ?_)
  ·
   refine WL.pf (WL.m (WL.s (WL.s (WL.s (WL.s (WL.pt (WL.m ?_)))))))
   refine WL.s (WL.s (WL.s (WL.s (WL.pt (WL.nil (W.ct (W.ret ?_)))))))
   refine bodyQ.r0 results26 ?_
   rw [inP_no (.inr (.inl (by rw [hoB]; omega)))]
   exact closeCn hw h.tail
  have ad_ := Own.addr h (by omega)
  obtain ⟨ba, oa, hal⟩ := ad_
  subst hal
  refine WL.pf (WL.m (WL.m (WL.v (run_indexAddr underlying26 sizeOf5 rfl rfl (by omega) (by omega)) (WL.l isAgg5 rfl ((h.cellsO (v := .slice (some ⟨ba, oa, none⟩) B.length B.length)).elem (i := 0) (vs := [.int .u8 ((B.getD 0 0).toNat : Int)]) (by omega) (getD_row (by omega)) 0 _ rfl) ?_))))
  refine WL.q (run_gtr rfl rfl) (fun c30 => ?_) (fun c30 => ?_)
  ·
   refine WL.pf (WL.m (WL.s (WL.s (WL.s (WL.s (WL.pt (WL.nil ?_)))))))
   refine W.ct (W.ret (bodyQ.r0 results26 ?_))
   rw [inP_no (.inr (.inr (.inl (by rw [hoB]; omega))))]
   exact closeCn hw h.tail
  refine WL.pf (WL.m (WL.m (WL.n rfl (WL.c 5 underlying115 rfl sizeOf4 rfl isAgg4 h rfl (WL.pf (WL.nil ?_))))))
  refine W.condB rfl (fun c2 => ?_) (fun c2 => ?_)
  ·
   refine W.ret (bodyQ.r0 results26 ?_)
   rw [inP_no (.inr (.inr (.inr c2)))]
   exact closeCn hw h.tail
  refine W.skip (W.seq ?_)
  have hyes := inP_yes (c := c) (p := bs) (by rw [hoB]; rintro (e | e | e | e); exact e ho2; omega; omega; rw [c2] at e; cases e)
  rw [hoB] at hyes
  rw [hyes]
  refine W.region (WL.e (eff_alloc h zeroValue120 rfl) ?_)
  rintro _ w ⟨b6, rfl, h⟩
  have h : On W0 (blk b6 (valsK B 0) 120 :: OwnB (.slice (some ⟨ba, oa, none⟩) B.length B.length) B :: blk bc (cnCells c ao co ai ci) 115 :: OwnB (.slice ao c.out.length co) c.out :: OwnB (.slice ai c.inb.length ci) c.inb :: L) w := h
  refine WL.nil (W.seq (W.sr (WL.m (WL.nil (W.block ?_)))))
  refine W.loop (fun (k : Nat) env w => k ≤ 4 ∧ ∃ (j : Env), env = mkE j [(0, .pointer (some ⟨bc, 0, none⟩)), (4, .slice (some ⟨ba, oa, none⟩) B.length B.length), (6, .pointer (some ⟨b6, 0, none⟩)), (38, .int .i64 (k : Int))] ∧ On W0 (blk b6 (valsK B k) 120 :: OwnB (.slice (some ⟨ba, oa, none⟩) B.length B.length) B :: blk bc (cnCells c ao co ai ci) 115 :: OwnB (.slice ao c.out.length co) c.out :: OwnB (.slice ai c.inb.length ci) c.inb :: L) w) (fun k => 4 - k) (0) ?_ ?_
  · exact ⟨by decide, _, mkE_of ⟨rfl, rfl, rfl, rfl, trivial⟩, h⟩
  clear h
  rintro k env w ⟨hk, j, rfl, h⟩
  refine W.sr (WL.v (run_lss rfl rfl) (WL.nil (W.seq ?_)))
  refine W.condIf rfl (fun c10 => ?_) (fun c10 => ?_)
  ·
   refine W.skip (W.seq ?_)
   have hk4 : k < 4 := by omega
   have hvl := valN_lt B k
   refine W.block (W.sr (WL.m (WL.z (W.sr ?_))))
   refine WL.m (WL.m (WL.v (run_mulN (m := 4) (n := k) rfl rfl (by omega)) (WL.v (run_addN (m := 1) (n := 4 * k) rfl rfl (by omega)) (WL.e (eff_call call52 (bgetE_ok (p := 1 + 4 * k) (n := 4) (bs := B) (by decide) (by decide) h (Gives.ownO (v := .slice (some ⟨ba, oa, none⟩) B.length B.length)))) ?_))))
   rintro _ w ⟨y, ok46, hz46, rfl, h⟩
   have hyy : y = valN B k := hz46 (by omega)
   subst hyy
   refine WL.m (WL.v (run_extract rfl rfl) (WL.v (run_extract rfl rfl) (WL.a (WL.z (W.region (WL.m ?_))))))
   refine WL.m (WL.v (run_convIn underlying27 underlying24 rfl (by show (0 : Int) ≤ _; omega) (by show _ ≤ (4294967295 : Int); omega)) (WL.v (run_indexAddrArr underlying120 sizeOf24 rfl rfl (by omega) (by show _ < (4 : Int); omega)) (WL.e (eff_store (v := .int .u32 (valN B k : Int)) h sizeOf24 rfl rfl rfl (by show Nat.ble (0 + k * 1 + 1) 4 = true; rw [Nat.ble_eq]; omega) rfl) ?_)))
   rintro _ w h
   rw [valsK_set B k hk4] at h
   refine WL.nil (W.region (WL.v (run_incN rfl rfl (by omega)) (WL.m (WL.nil ?_))))
   exact ⟨k + 1, ⟨by omega, _, mkE_of ⟨rfl, rfl, rfl, rfl, trivial⟩, h⟩, by show 4 - (k + 1) < 4 - k; omega⟩
  refine W.exit ?_
  refine W.cut (fun env w => ∃ (j : Env), env = mkE j [(0, .pointer (some ⟨bc, 0, none⟩)), (4, .slice (some ⟨ba, oa, none⟩) B.length B.length), (10, .int .u32 (valN B 0 : Int)), (11, .int .u32 (valN B 1 : Int)), (12, .int .u32 (valN B 2 : Int)), (13, .int .u32 (valN B 3 : Int))] ∧ On W0 (OwnB (.slice (some ⟨ba, oa, none⟩) B.length B.length) B :: blk bc (cnCells c ao co ai ci) 115 :: OwnB (.slice ao c.out.length co) c.out :: OwnB (.slice ai c.inb.length ci) c.inb :: L) w) ?_ ?_
  ·
   have ob_ : k = 4 := by omega
   obtain rfl := ob_
   refine W.draw Tryz.follows h (fun w h => ?_)
   refine WT.p 0 rfl (fun w' => (run_indexAddrArr underlying120 sizeOf24 rfl rfl (by omega) (by omega))) (WT.l 1 rfl isAgg24 rfl (h.cellB rfl) (WT.p 2 rfl (fun w' => (run_indexAddrArr underlying120 sizeOf24 rfl rfl (by omega) (by omega))) (WT.l 3 rfl isAgg24 rfl (h.cellB rfl) (WT.p 4 rfl (fun w' => (run_indexAddrArr underlying120 sizeOf24 rfl rfl (by omega) (by omega))) (WT.l 5 rfl isAgg24 rfl (h.cellB rfl) (WT.p 6 rfl (fun w' => (run_indexAddrArr underlying120 sizeOf24 rfl rfl (by omega) (by omega))) (WT.l 7 rfl isAgg24 rfl (h.cellB rfl) ?_)))))))
   refine WT.a 8 rfl (WT.a 9 rfl (WT.a 10 rfl (WT.a 11 rfl (WT.dn ?_))))
   exact ⟨_, mkE_of ⟨rfl, rfl, rfl, rfl, rfl, rfl, trivial⟩, h.to⟩
  clear h
  rintro env w ⟨j, rfl, h⟩
  refine W.seq (W.block (W.sr (WL.m (WL.n rfl (WL.f 3 underlying115 rfl sizeOf4 rfl rfl ?_)))))
  refine WL.boolB (run_load1 isAgg4 rfl (h.cellB rfl)) rfl rfl (fun c66 => ?_) (fun c66 => ?_)
  ·
   refine WL.m (WL.m (WL.m (WL.n rfl (WL.c 2 underlying115 rfl sizeOf24 rfl isAgg24 h rfl (WL.v (run_neq rfl rfl) (WL.pt ?_))))))
   refine WL.z ?_
   refine W.condIf rfl (fun c21 => ?_) (fun c21 => ?_)
   ·
    refine W.sr (WL.m (WL.n rfl (WL.f 5 underlying115 rfl sizeOf4 rfl rfl (WL.e (eff_store (v := .bool true) h sizeOf4 rfl rfl rfl rfl rfl) ?_))))
    rintro _ w h
    simp only [cnCells, pkCells, List.set_cons_zero, List.set_cons_succ] at h
    refine WL.nil (W.ret (bodyQ.r0 results26 ?_))
    have e := inB_reset (c := c) (B := B) c66 (by omega)
    rw [e]
    have h := closeCn (T := 115) (b := bc) (c := { c with reset := true }) (ao := ao) (co := co) (ai := ai) (ci := ci) hw (((h.fetch (OwnB (.slice ai c.inb.length ci) c.inb)).fetch (OwnB (.slice ao c.out.length co) c.out)).fetch (blk bc _ 115))
    exact h.to
   have hn1 : c.known = false ∨ valN B 0 = c.peer := .inr (by omega)
   refine W.sr (WL.m (WL.v (run_indexAddr underlying26 sizeOf5 rfl rfl (by omega) (by omega)) (WL.l isAgg5 rfl ((h.cellsO (v := .slice (some ⟨ba, oa, none⟩) B.length B.length)).elem (i := 0) (vs := [.int .u8 ((B.getD 0 0).toNat : Int)]) (by omega) (getD_row (by omega)) 0 _ rfl) (WL.v (run_eql rfl rfl) (WL.z ?_)))))
   refine W.condIf rfl (fun c25 => ?_) (fun c25 => ?_)
   ·
    refine W.sr (WL.m (WL.m (WL.m (WL.m (WL.n rfl (WL.f 2 underlying115 rfl sizeOf24 rfl rfl ?_))))))
    refine WL.e (eff_store (v := .int .u32 (valN B 0 : Int)) h sizeOf24 rfl rfl rfl rfl rfl) ?_
    rintro _ w h
    simp only [cnCells, pkCells, List.set_cons_zero, List.set_cons_succ] at h
    refine WL.n rfl (WL.f 3 underlying115 rfl sizeOf4 rfl rfl (WL.e (eff_store (v := .bool true) h sizeOf4 rfl rfl rfl rfl rfl) ?_))
    rintro _ w h
    simp only [cnCells, pkCells, List.set_cons_zero, List.set_cons_succ] at h
    refine WL.n rfl (WL.f 11 underlying115 rfl sizeOf4 rfl rfl (WL.e (eff_store (v := .bool true) h sizeOf4 rfl rfl rfl rfl rfl) ?_))
    rintro _ w h
    simp only [cnCells, pkCells, List.set_cons_zero, List.set_cons_succ] at h
    refine WL.nil (W.ret (bodyQ.r0 results26 ?_))
    have e := inB_new (c := c) (B := B) hn1 (.inl (by omega))
    rw [e]
    have h := closeCn (T := 115) (b := bc) (c := { c with peer := valN B 0, known := true, say := true }) (ao := ao) (co := co) (ai := ai) (ci := ci) ⟨⟨hwn.1, valN_lt B 0, hwn.2.2.1, hwn.2.2.2⟩, hwo, hwi, hws⟩ (((h.fetch (OwnB (.slice ai c.inb.length ci) c.inb)).fetch (OwnB (.slice ao c.out.length co) c.out)).fetch (blk bc _ 115))
    exact h.to
   refine W.sr (WL.m (WL.m (WL.n rfl (WL.c 0 underlying115 rfl sizeOf24 rfl isAgg24 h rfl (WL.v (run_neq rfl rfl) ?_)))))
   refine WL.z ?_
   refine W.condIf rfl (fun c29 => ?_) (fun c29 => ?_)
   ·
    refine W.sr (WL.m (WL.m (WL.m (WL.m (WL.n rfl (WL.f 2 underlying115 rfl sizeOf24 rfl rfl ?_))))))
    refine WL.e (eff_store (v := .int .u32 (valN B 0 : Int)) h sizeOf24 rfl rfl rfl rfl rfl) ?_
    rintro _ w h
    simp only [cnCells, pkCells, List.set_cons_zero, List.set_cons_succ] at h
    refine WL.n rfl (WL.f 3 underlying115 rfl sizeOf4 rfl rfl (WL.e (eff_store (v := .bool true) h sizeOf4 rfl rfl rfl rfl rfl) ?_))
    rintro _ w h
    simp only [cnCells, pkCells, List.set_cons_zero, List.set_cons_succ] at h
    refine WL.n rfl (WL.f 11 underlying115 rfl sizeOf4 rfl rfl (WL.e (eff_store (v := .bool true) h sizeOf4 rfl rfl rfl rfl rfl) ?_))
    rintro _ w h
    simp only [cnCells, pkCells, List.set_cons_zero, List.set_cons_succ] at h
    refine WL.nil (W.ret (bodyQ.r0 results26 ?_))
    have e := inB_new (c := c) (B := B) hn1 (.inr (by omega))
    rw [e]
    have h := closeCn (T := 115) (b := bc) (c := { c with peer := valN B 0, known := true, say := true }) (ao := ao) (co := co) (ai := ai) (ci := ci) ⟨⟨hwn.1, valN_lt B 0, hwn.2.2.1, hwn.2.2.2⟩, hwo, hwi, hws⟩ (((h.fetch (OwnB (.slice ai c.inb.length ci) c.inb)).fetch (OwnB (.slice ao c.out.length co) c.out)).fetch (blk bc _ 115))
    exact h.to
   refine W.skip (W.sr (WL.m (WL.m (WL.n rfl (WL.f 11 underlying115 rfl sizeOf4 rfl rfl ?_)))))
   refine WL.boolB (run_load1 isAgg4 rfl (h.cellB rfl)) rfl rfl (fun c114 => ?_) (fun c114 => ?_)
   ·
    refine WL.m (WL.s (WL.s (WL.s (WL.s (WL.s (WL.pt (WL.m ?_)))))))
    refine WL.s (WL.s (WL.s (WL.s (WL.pt (WL.n rfl (WL.f 11 underlying115 rfl sizeOf4 rfl rfl ?_))))))
    refine WL.e (eff_store (v := .bool (c.say || !c.met || decide ((B.getD 0 0).toNat = 1))) h sizeOf4 rfl (congrArg Value.bool ((by show _ = (c.say || !c.met || decide ((B.getD 0 0).toNat = 1)); simp only [c114, Bool.not_true, Bool.not_false, Bool.and_true, Bool.and_false, Bool.or_false, Bool.or_true, Bool.true_or, Bool.false_or, Bool.true_and, Bool.false_and]; all_goals rfl))) rfl rfl rfl) ?_
    rintro _ w h
    simp only [cnCells, pkCells, List.set_cons_zero, List.set_cons_succ] at h
    refine WL.nil (W.sr (WL.m (WL.m (WL.m (WL.m (WL.n rfl ?_))))))
    refine WL.f 2 underlying115 rfl sizeOf24 rfl rfl (WL.e (eff_store (v := .int .u32 (valN B 0 : Int)) h sizeOf24 rfl rfl rfl rfl rfl) ?_)
    rintro _ w h
    simp only [cnCells, pkCells, List.set_cons_zero, List.set_cons_succ] at h
    refine WL.n rfl (WL.f 3 underlying115 rfl sizeOf4 rfl rfl (WL.e (eff_store (v := .bool true) h sizeOf4 rfl rfl rfl rfl rfl) ?_))
    rintro _ w h
    simp only [cnCells, pkCells, List.set_cons_zero, List.set_cons_succ] at h
    refine WL.n rfl (WL.f 4 underlying115 rfl sizeOf4 rfl rfl (WL.e (eff_store (v := .bool true) h sizeOf4 rfl rfl rfl rfl rfl) ?_))
    rintro _ w h
    simp only [cnCells, pkCells, List.set_cons_zero, List.set_cons_succ] at h
    refine WL.nil ?_
    have ob_ : ∃ X, X = B.drop 17 := ⟨_, rfl⟩
    obtain ⟨X, hX⟩ := ob_
    have gB : Gives [OwnB (.slice (some ⟨ba, oa, none⟩) B.length B.length) B] (Bytes (.slice (some ⟨ba, oa, none⟩) B.length B.length) B) := Gives.ownO (v := .slice (some ⟨ba, oa, none⟩) B.length B.length)
    have hct := cut_bytes (l := 17) (h := B.length) gB (Nat.le_refl _) (by omega) (Nat.le_refl _)
    rw [show (B.drop 17).take (B.length - 17) = X by rw [hX]; exact List.take_of_length_le (by rw [List.length_drop]; omega)] at hct
    obtain ⟨aX, cX, hcut, gX⟩ := hct
    have hXl : X.length = B.length - 17 := by rw [hX, List.length_drop]
    have h := closeCn (T := 115) (b := bc) (c := { c with say := c.say || !c.met || decide ((B.getD 0 0).toNat = 1), peer := valN B 0, known := true, met := true }) (ao := ao) (co := co) (ai := ai) (ci := ci) ⟨⟨hwn.1, valN_lt B 0, hwn.2.2.1, hwn.2.2.2⟩, hwo, hwi, hws⟩ (((h.fetch (OwnB (.slice ai c.inb.length ci) c.inb)).fetch (OwnB (.slice ao c.out.length co) c.out)).fetch (blk bc _ 115))
    refine W.region (WL.m (WL.m (WL.m (WL.m (WL.v (run_cutLV (n := B.length) (l := 17) underlying26 sizeOf5 rfl rfl (by omega) hcut) (WL.e (eff_call call64 (ctake_ok (c := { c with say := c.say || !c.met || decide ((B.getD 0 0).toNat = 1), peer := valN B 0, known := true, met := true }) (ack := valN B 2) (at_ := valN B 3) (bs := X) (valN_lt B 2) (valN_lt B 3) (by omega) h (Gives.to gX))) ?_))))))
    rintro _ w h
    refine WL.nil (bodyQ.fall (bodyQ.r0 results26 ?_))
    have e := inB_take (c := c) (B := B) hn1 (by rintro (e | e); omega; omega)
    rw [e, ← hX]
    exact h.to
   refine WL.m (WL.m (WL.n rfl (WL.f 4 underlying115 rfl sizeOf4 rfl rfl ?_)))
   refine WL.boolB (run_load1 isAgg4 rfl (h.cellB rfl)) rfl rfl (fun c119 => ?_) (fun c119 => ?_)
   ·
    refine WL.v (run_not rfl) (WL.pf (WL.m (WL.m (WL.v (run_indexAddr underlying26 sizeOf5 rfl rfl (by omega) (by omega)) (WL.l isAgg5 rfl ((h.cellsO (v := .slice (some ⟨ba, oa, none⟩) B.length B.length)).elem (i := 0) (vs := [.int .u8 ((B.getD 0 0).toNat : Int)]) (by omega) (getD_row (by omega)) 0 _ rfl) (WL.v (run_eql rfl rfl) (WL.pf ?_)))))))
    refine WL.n rfl (WL.f 11 underlying115 rfl sizeOf4 rfl rfl ?_)
    refine WL.e (eff_store (v := .bool (c.say || !c.met || decide ((B.getD 0 0).toNat = 1))) h sizeOf4 rfl (congrArg Value.bool ((by show _ = (c.say || !c.met || decide ((B.getD 0 0).toNat = 1)); simp only [c114, c119, Bool.not_true, Bool.not_false, Bool.and_true, Bool.and_false, Bool.or_false, Bool.or_true, Bool.true_or, Bool.false_or, Bool.true_and, Bool.false_and]; exact decide_eq_decide.2 (by omega)))) rfl rfl rfl) ?_
    rintro _ w h
    simp only [cnCells, pkCells, List.set_cons_zero, List.set_cons_succ] at h
    refine WL.nil (W.sr (WL.m (WL.m (WL.m (WL.m (WL.n rfl ?_))))))
    refine WL.f 2 underlying115 rfl sizeOf24 rfl rfl (WL.e (eff_store (v := .int .u32 (valN B 0 : Int)) h sizeOf24 rfl rfl rfl rfl rfl) ?_)
    rintro _ w h
    simp only [cnCells, pkCells, List.set_cons_zero, List.set_cons_succ] at h
    refine WL.n rfl (WL.f 3 underlying115 rfl sizeOf4 rfl rfl (WL.e (eff_store (v := .bool true) h sizeOf4 rfl rfl rfl rfl rfl) ?_))
    rintro _ w h
    simp only [cnCells, pkCells, List.set_cons_zero, List.set_cons_succ] at h
    refine WL.n rfl (WL.f 4 underlying115 rfl sizeOf4 rfl rfl (WL.e (eff_store (v := .bool true) h sizeOf4 rfl rfl rfl rfl rfl) ?_))
    rintro _ w h
    simp only [cnCells, pkCells, List.set_cons_zero, List.set_cons_succ] at h
    refine WL.nil ?_
    have ob_ : ∃ X, X = B.drop 17 := ⟨_, rfl⟩
    obtain ⟨X, hX⟩ := ob_
    have gB : Gives [OwnB (.slice (some ⟨ba, oa, none⟩) B.length B.length) B] (Bytes (.slice (some ⟨ba, oa, none⟩) B.length B.length) B) := Gives.ownO (v := .slice (some ⟨ba, oa, none⟩) B.length B.length)
    have hct := cut_bytes (l := 17) (h := B.length) gB (Nat.le_refl _) (by omega) (Nat.le_refl _)
    rw [show (B.drop 17).take (B.length - 17) = X by rw [hX]; exact List.take_of_length_le (by rw [List.length_drop]; omega)] at hct
    obtain ⟨aX, cX, hcut, gX⟩ := hct
    have hXl : X.length = B.length - 17 := by rw [hX, List.length_drop]
    have h := closeCn (T := 115) (b := bc) (c := { c with say := c.say || !c.met || decide ((B.getD 0 0).toNat = 1), peer := valN B 0, known := true, met := true }) (ao := ao) (co := co) (ai := ai) (ci := ci) ⟨⟨hwn.1, valN_lt B 0, hwn.2.2.1, hwn.2.2.2⟩, hwo, hwi, hws⟩ (((h.fetch (OwnB (.slice ai c.inb.length ci) c.inb)).fetch (OwnB (.slice ao c.out.length co) c.out)).fetch (blk bc _ 115))
    refine W.region (WL.m (WL.m (WL.m (WL.m (WL.v (run_cutLV (n := B.length) (l := 17) underlying26 sizeOf5 rfl rfl (by omega) hcut) (WL.e (eff_call call64 (ctake_ok (c := { c with say := c.say || !c.met || decide ((B.getD 0 0).toNat = 1), peer := valN B 0, known := true, met := true }) (ack := valN B 2) (at_ := valN B 3) (bs := X) (valN_lt B 2) (valN_lt B 3) (by omega) h (Gives.to gX))) ?_))))))
    rintro _ w h
    refine WL.nil (bodyQ.fall (bodyQ.r0 results26 ?_))
    have e := inB_take (c := c) (B := B) hn1 (by rintro (e | e); omega; omega)
    rw [e, ← hX]
    exact h.to
   refine WL.v (run_not rfl) (WL.pf (WL.m (WL.s (WL.s (WL.s (WL.s (WL.pt ?_)))))))
   refine WL.n rfl (WL.f 11 underlying115 rfl sizeOf4 rfl rfl ?_)
   refine WL.e (eff_store (v := .bool (c.say || !c.met || decide ((B.getD 0 0).toNat = 1))) h sizeOf4 rfl (congrArg Value.bool ((by show _ = (c.say || !c.met || decide ((B.getD 0 0).toNat = 1)); simp only [c114, c119, Bool.not_true, Bool.not_false, Bool.and_true, Bool.and_false, Bool.or_false, Bool.or_true, Bool.true_or, Bool.false_or, Bool.true_and, Bool.false_and]; all_goals rfl))) rfl rfl rfl) ?_
   rintro _ w h
   simp only [cnCells, pkCells, List.set_cons_zero, List.set_cons_succ] at h
   refine WL.nil (W.sr (WL.m (WL.m (WL.m (WL.m (WL.n rfl ?_))))))
   refine WL.f 2 underlying115 rfl sizeOf24 rfl rfl (WL.e (eff_store (v := .int .u32 (valN B 0 : Int)) h sizeOf24 rfl rfl rfl rfl rfl) ?_)
   rintro _ w h
   simp only [cnCells, pkCells, List.set_cons_zero, List.set_cons_succ] at h
   refine WL.n rfl (WL.f 3 underlying115 rfl sizeOf4 rfl rfl (WL.e (eff_store (v := .bool true) h sizeOf4 rfl rfl rfl rfl rfl) ?_))
   rintro _ w h
   simp only [cnCells, pkCells, List.set_cons_zero, List.set_cons_succ] at h
   refine WL.n rfl (WL.f 4 underlying115 rfl sizeOf4 rfl rfl (WL.e (eff_store (v := .bool true) h sizeOf4 rfl rfl rfl rfl rfl) ?_))
   rintro _ w h
   simp only [cnCells, pkCells, List.set_cons_zero, List.set_cons_succ] at h
   refine WL.nil ?_
   have ob_ : ∃ X, X = B.drop 17 := ⟨_, rfl⟩
   obtain ⟨X, hX⟩ := ob_
   have gB : Gives [OwnB (.slice (some ⟨ba, oa, none⟩) B.length B.length) B] (Bytes (.slice (some ⟨ba, oa, none⟩) B.length B.length) B) := Gives.ownO (v := .slice (some ⟨ba, oa, none⟩) B.length B.length)
   have hct := cut_bytes (l := 17) (h := B.length) gB (Nat.le_refl _) (by omega) (Nat.le_refl _)
   rw [show (B.drop 17).take (B.length - 17) = X by rw [hX]; exact List.take_of_length_le (by rw [List.length_drop]; omega)] at hct
   obtain ⟨aX, cX, hcut, gX⟩ := hct
   have hXl : X.length = B.length - 17 := by rw [hX, List.length_drop]
   have h := closeCn (T := 115) (b := bc) (c := { c with say := c.say || !c.met || decide ((B.getD 0 0).toNat = 1), peer := valN B 0, known := true, met := true }) (ao := ao) (co := co) (ai := ai) (ci := ci) ⟨⟨hwn.1, valN_lt B 0, hwn.2.2.1, hwn.2.2.2⟩, hwo, hwi, hws⟩ (((h.fetch (OwnB (.slice ai c.inb.length ci) c.inb)).fetch (OwnB (.slice ao c.out.length co) c.out)).fetch (blk bc _ 115))
   refine W.region (WL.m (WL.m (WL.m (WL.m (WL.v (run_cutLV (n := B.length) (l := 17) underlying26 sizeOf5 rfl rfl (by omega) hcut) (WL.e (eff_call call64 (ctake_ok (c := { c with say := c.say || !c.met || decide ((B.getD 0 0).toNat = 1), peer := valN B 0, known := true, met := true }) (ack := valN B 2) (at_ := valN B 3) (bs := X) (valN_lt B 2) (valN_lt B 3) (by omega) h (Gives.to gX))) ?_))))))
   rintro _ w h
   refine WL.nil (bodyQ.fall (bodyQ.r0 results26 ?_))
   have e := inB_take (c := c) (B := B) hn1 (by rintro (e | e); omega; omega)
   rw [e, ← hX]
   exact h.to
  have hn1 : c.known = false ∨ valN B 0 = c.peer := .inl c66
  refine WL.m (WL.s (WL.s (WL.s (WL.s (WL.s (WL.s (WL.pf ?_)))))))
  refine WL.z (W.cf (W.sr (WL.m (WL.v (run_indexAddr underlying26 sizeOf5 rfl rfl (by omega) (by omega)) (WL.l isAgg5 rfl ((h.cellsO (v := .slice (some ⟨ba, oa, none⟩) B.length B.length)).elem (i := 0) (vs := [.int .u8 ((B.getD 0 0).toNat : Int)]) (by omega) (getD_row (by omega)) 0 _ rfl) ?_)))))
  refine WL.v (run_eql rfl rfl) (WL.z ?_)
  refine W.condIf rfl (fun c25 => ?_) (fun c25 => ?_)
  ·
   refine W.sr (WL.m (WL.m (WL.m (WL.m (WL.n rfl (WL.f 2 underlying115 rfl sizeOf24 rfl rfl ?_))))))
   refine WL.e (eff_store (v := .int .u32 (valN B 0 : Int)) h sizeOf24 rfl rfl rfl rfl rfl) ?_
   rintro _ w h
   simp only [cnCells, pkCells, List.set_cons_zero, List.set_cons_succ] at h
   refine WL.n rfl (WL.f 3 underlying115 rfl sizeOf4 rfl rfl (WL.e (eff_store (v := .bool true) h sizeOf4 rfl rfl rfl rfl rfl) ?_))
   rintro _ w h
   simp only [cnCells, pkCells, List.set_cons_zero, List.set_cons_succ] at h
   refine WL.n rfl (WL.f 11 underlying115 rfl sizeOf4 rfl rfl (WL.e (eff_store (v := .bool true) h sizeOf4 rfl rfl rfl rfl rfl) ?_))
   rintro _ w h
   simp only [cnCells, pkCells, List.set_cons_zero, List.set_cons_succ] at h
   refine WL.nil (W.ret (bodyQ.r0 results26 ?_))
   have e := inB_new (c := c) (B := B) hn1 (.inl (by omega))
   rw [e]
   have h := closeCn (T := 115) (b := bc) (c := { c with peer := valN B 0, known := true, say := true }) (ao := ao) (co := co) (ai := ai) (ci := ci) ⟨⟨hwn.1, valN_lt B 0, hwn.2.2.1, hwn.2.2.2⟩, hwo, hwi, hws⟩ (((h.fetch (OwnB (.slice ai c.inb.length ci) c.inb)).fetch (OwnB (.slice ao c.out.length co) c.out)).fetch (blk bc _ 115))
   exact h.to
  refine W.sr (WL.m (WL.m (WL.n rfl (WL.c 0 underlying115 rfl sizeOf24 rfl isAgg24 h rfl (WL.v (run_neq rfl rfl) ?_)))))
  refine WL.z ?_
  refine W.condIf rfl (fun c29 => ?_) (fun c29 => ?_)
  ·
   refine W.sr (WL.m (WL.m (WL.m (WL.m (WL.n rfl (WL.f 2 underlying115 rfl sizeOf24 rfl rfl ?_))))))
   refine WL.e (eff_store (v := .int .u32 (valN B 0 : Int)) h sizeOf24 rfl rfl rfl rfl rfl) ?_
   rintro _ w h
   simp only [cnCells, pkCells, List.set_cons_zero, List.set_cons_succ] at h
   refine WL.n rfl (WL.f 3 underlying115 rfl sizeOf4 rfl rfl (WL.e (eff_store (v := .bool true) h sizeOf4 rfl rfl rfl rfl rfl) ?_))
   rintro _ w h
   simp only [cnCells, pkCells, List.set_cons_zero, List.set_cons_succ] at h
   refine WL.n rfl (WL.f 11 underlying115 rfl sizeOf4 rfl rfl (WL.e (eff_store (v := .bool true) h sizeOf4 rfl rfl rfl rfl rfl) ?_))
   rintro _ w h
   simp only [cnCells, pkCells, List.set_cons_zero, List.set_cons_succ] at h
   refine WL.nil (W.ret (bodyQ.r0 results26 ?_))
   have e := inB_new (c := c) (B := B) hn1 (.inr (by omega))
   rw [e]
   have h := closeCn (T := 115) (b := bc) (c := { c with peer := valN B 0, known := true, say := true }) (ao := ao) (co := co) (ai := ai) (ci := ci) ⟨⟨hwn.1, valN_lt B 0, hwn.2.2.1, hwn.2.2.2⟩, hwo, hwi, hws⟩ (((h.fetch (OwnB (.slice ai c.inb.length ci) c.inb)).fetch (OwnB (.slice ao c.out.length co) c.out)).fetch (blk bc _ 115))
   exact h.to
  refine W.skip (W.sr (WL.m (WL.m (WL.n rfl (WL.f 11 underlying115 rfl sizeOf4 rfl rfl ?_)))))
  refine WL.boolB (run_load1 isAgg4 rfl (h.cellB rfl)) rfl rfl (fun c114 => ?_) (fun c114 => ?_)
  ·
   refine WL.m (WL.s (WL.s (WL.s (WL.s (WL.s (WL.pt (WL.m ?_)))))))
   refine WL.s (WL.s (WL.s (WL.s (WL.pt (WL.n rfl (WL.f 11 underlying115 rfl sizeOf4 rfl rfl ?_))))))
   refine WL.e (eff_store (v := .bool (c.say || !c.met || decide ((B.getD 0 0).toNat = 1))) h sizeOf4 rfl (congrArg Value.bool ((by show _ = (c.say || !c.met || decide ((B.getD 0 0).toNat = 1)); simp only [c114, Bool.not_true, Bool.not_false, Bool.and_true, Bool.and_false, Bool.or_false, Bool.or_true, Bool.true_or, Bool.false_or, Bool.true_and, Bool.false_and]; all_goals rfl))) rfl rfl rfl) ?_
   rintro _ w h
   simp only [cnCells, pkCells, List.set_cons_zero, List.set_cons_succ] at h
   refine WL.nil (W.sr (WL.m (WL.m (WL.m (WL.m (WL.n rfl ?_))))))
   refine WL.f 2 underlying115 rfl sizeOf24 rfl rfl (WL.e (eff_store (v := .int .u32 (valN B 0 : Int)) h sizeOf24 rfl rfl rfl rfl rfl) ?_)
   rintro _ w h
   simp only [cnCells, pkCells, List.set_cons_zero, List.set_cons_succ] at h
   refine WL.n rfl (WL.f 3 underlying115 rfl sizeOf4 rfl rfl (WL.e (eff_store (v := .bool true) h sizeOf4 rfl rfl rfl rfl rfl) ?_))
   rintro _ w h
   simp only [cnCells, pkCells, List.set_cons_zero, List.set_cons_succ] at h
   refine WL.n rfl (WL.f 4 underlying115 rfl sizeOf4 rfl rfl (WL.e (eff_store (v := .bool true) h sizeOf4 rfl rfl rfl rfl rfl) ?_))
   rintro _ w h
   simp only [cnCells, pkCells, List.set_cons_zero, List.set_cons_succ] at h
   refine WL.nil ?_
   have ob_ : ∃ X, X = B.drop 17 := ⟨_, rfl⟩
   obtain ⟨X, hX⟩ := ob_
   have gB : Gives [OwnB (.slice (some ⟨ba, oa, none⟩) B.length B.length) B] (Bytes (.slice (some ⟨ba, oa, none⟩) B.length B.length) B) := Gives.ownO (v := .slice (some ⟨ba, oa, none⟩) B.length B.length)
   have hct := cut_bytes (l := 17) (h := B.length) gB (Nat.le_refl _) (by omega) (Nat.le_refl _)
   rw [show (B.drop 17).take (B.length - 17) = X by rw [hX]; exact List.take_of_length_le (by rw [List.length_drop]; omega)] at hct
   obtain ⟨aX, cX, hcut, gX⟩ := hct
   have hXl : X.length = B.length - 17 := by rw [hX, List.length_drop]
   have h := closeCn (T := 115) (b := bc) (c := { c with say := c.say || !c.met || decide ((B.getD 0 0).toNat = 1), peer := valN B 0, known := true, met := true }) (ao := ao) (co := co) (ai := ai) (ci := ci) ⟨⟨hwn.1, valN_lt B 0, hwn.2.2.1, hwn.2.2.2⟩, hwo, hwi, hws⟩ (((h.fetch (OwnB (.slice ai c.inb.length ci) c.inb)).fetch (OwnB (.slice ao c.out.length co) c.out)).fetch (blk bc _ 115))
   refine W.region (WL.m (WL.m (WL.m (WL.m (WL.v (run_cutLV (n := B.length) (l := 17) underlying26 sizeOf5 rfl rfl (by omega) hcut) (WL.e (eff_call call64 (ctake_ok (c := { c with say := c.say || !c.met || decide ((B.getD 0 0).toNat = 1), peer := valN B 0, known := true, met := true }) (ack := valN B 2) (at_ := valN B 3) (bs := X) (valN_lt B 2) (valN_lt B 3) (by omega) h (Gives.to gX))) ?_))))))
   rintro _ w h
   refine WL.nil (bodyQ.fall (bodyQ.r0 results26 ?_))
   have e := inB_take (c := c) (B := B) hn1 (by rintro (e | e); omega; omega)
   rw [e, ← hX]
   exact h.to
  refine WL.m (WL.m (WL.n rfl (WL.f 4 underlying115 rfl sizeOf4 rfl rfl ?_)))
  refine WL.boolB (run_load1 isAgg4 rfl (h.cellB rfl)) rfl rfl (fun c119 => ?_) (fun c119 => ?_)
  ·
   refine WL.v (run_not rfl) (WL.pf (WL.m (WL.m (WL.v (run_indexAddr underlying26 sizeOf5 rfl rfl (by omega) (by omega)) (WL.l isAgg5 rfl ((h.cellsO (v := .slice (some ⟨ba, oa, none⟩) B.length B.length)).elem (i := 0) (vs := [.int .u8 ((B.getD 0 0).toNat : Int)]) (by omega) (getD_row (by omega)) 0 _ rfl) (WL.v (run_eql rfl rfl) (WL.pf ?_)))))))
   refine WL.n rfl (WL.f 11 underlying115 rfl sizeOf4 rfl rfl ?_)
   refine WL.e (eff_store (v := .bool (c.say || !c.met || decide ((B.getD 0 0).toNat = 1))) h sizeOf4 rfl (congrArg Value.bool ((by show _ = (c.say || !c.met || decide ((B.getD 0 0).toNat = 1)); simp only [c114, c119, Bool.not_true, Bool.not_false, Bool.and_true, Bool.and_false, Bool.or_false, Bool.or_true, Bool.true_or, Bool.false_or, Bool.true_and, Bool.false_and]; exact decide_eq_decide.2 (by omega)))) rfl rfl rfl) ?_
   rintro _ w h
   simp only [cnCells, pkCells, List.set_cons_zero, List.set_cons_succ] at h
   refine WL.nil (W.sr (WL.m (WL.m (WL.m (WL.m (WL.n rfl ?_))))))
   refine WL.f 2 underlying115 rfl sizeOf24 rfl rfl (WL.e (eff_store (v := .int .u32 (valN B 0 : Int)) h sizeOf24 rfl rfl rfl rfl rfl) ?_)
   rintro _ w h
   simp only [cnCells, pkCells, List.set_cons_zero, List.set_cons_succ] at h
   refine WL.n rfl (WL.f 3 underlying115 rfl sizeOf4 rfl rfl (WL.e (eff_store (v := .bool true) h sizeOf4 rfl rfl rfl rfl rfl) ?_))
   rintro _ w h
   simp only [cnCells, pkCells, List.set_cons_zero, List.set_cons_succ] at h
   refine WL.n rfl (WL.f 4 underlying115 rfl sizeOf4 rfl rfl (WL.e (eff_store (v := .bool true) h sizeOf4 rfl rfl rfl rfl rfl) ?_))
   rintro _ w h
   simp only [cnCells, pkCells, List.set_cons_zero, List.set_cons_succ] at h
   refine WL.nil ?_
   have ob_ : ∃ X, X = B.drop 17 := ⟨_, rfl⟩
   obtain ⟨X, hX⟩ := ob_
   have gB : Gives [OwnB (.slice (some ⟨ba, oa, none⟩) B.length B.length) B] (Bytes (.slice (some ⟨ba, oa, none⟩) B.length B.length) B) := Gives.ownO (v := .slice (some ⟨ba, oa, none⟩) B.length B.length)
   have hct := cut_bytes (l := 17) (h := B.length) gB (Nat.le_refl _) (by omega) (Nat.le_refl _)
   rw [show (B.drop 17).take (B.length - 17) = X by rw [hX]; exact List.take_of_length_le (by rw [List.length_drop]; omega)] at hct
   obtain ⟨aX, cX, hcut, gX⟩ := hct
   have hXl : X.length = B.length - 17 := by rw [hX, List.length_drop]
   have h := closeCn (T := 115) (b := bc) (c := { c with say := c.say || !c.met || decide ((B.getD 0 0).toNat = 1), peer := valN B 0, known := true, met := true }) (ao := ao) (co := co) (ai := ai) (ci := ci) ⟨⟨hwn.1, valN_lt B 0, hwn.2.2.1, hwn.2.2.2⟩, hwo, hwi, hws⟩ (((h.fetch (OwnB (.slice ai c.inb.length ci) c.inb)).fetch (OwnB (.slice ao c.out.length co) c.out)).fetch (blk bc _ 115))
   refine W.region (WL.m (WL.m (WL.m (WL.m (WL.v (run_cutLV (n := B.length) (l := 17) underlying26 sizeOf5 rfl rfl (by omega) hcut) (WL.e (eff_call call64 (ctake_ok (c := { c with say := c.say || !c.met || decide ((B.getD 0 0).toNat = 1), peer := valN B 0, known := true, met := true }) (ack := valN B 2) (at_ := valN B 3) (bs := X) (valN_lt B 2) (valN_lt B 3) (by omega) h (Gives.to gX))) ?_))))))
   rintro _ w h
   refine WL.nil (bodyQ.fall (bodyQ.r0 results26 ?_))
   have e := inB_take (c := c) (B := B) hn1 (by rintro (e | e); omega; omega)
   rw [e, ← hX]
   exact h.to
  refine WL.v (run_not rfl) (WL.pf (WL.m (WL.s (WL.s (WL.s (WL.s (WL.pt ?_)))))))
  refine WL.n rfl (WL.f 11 underlying115 rfl sizeOf4 rfl rfl ?_)
  refine WL.e (eff_store (v := .bool (c.say || !c.met || decide ((B.getD 0 0).toNat = 1))) h sizeOf4 rfl (congrArg Value.bool ((by show _ = (c.say || !c.met || decide ((B.getD 0 0).toNat = 1)); simp only [c114, c119, Bool.not_true, Bool.not_false, Bool.and_true, Bool.and_false, Bool.or_false, Bool.or_true, Bool.true_or, Bool.false_or, Bool.true_and, Bool.false_and]; all_goals rfl))) rfl rfl rfl) ?_
  rintro _ w h
  simp only [cnCells, pkCells, List.set_cons_zero, List.set_cons_succ] at h
  refine WL.nil (W.sr (WL.m (WL.m (WL.m (WL.m (WL.n rfl ?_))))))
  refine WL.f 2 underlying115 rfl sizeOf24 rfl rfl (WL.e (eff_store (v := .int .u32 (valN B 0 : Int)) h sizeOf24 rfl rfl rfl rfl rfl) ?_)
  rintro _ w h
  simp only [cnCells, pkCells, List.set_cons_zero, List.set_cons_succ] at h
  refine WL.n rfl (WL.f 3 underlying115 rfl sizeOf4 rfl rfl (WL.e (eff_store (v := .bool true) h sizeOf4 rfl rfl rfl rfl rfl) ?_))
  rintro _ w h
  simp only [cnCells, pkCells, List.set_cons_zero, List.set_cons_succ] at h
  refine WL.n rfl (WL.f 4 underlying115 rfl sizeOf4 rfl rfl (WL.e (eff_store (v := .bool true) h sizeOf4 rfl rfl rfl rfl rfl) ?_))
  rintro _ w h
  simp only [cnCells, pkCells, List.set_cons_zero, List.set_cons_succ] at h
  refine WL.nil ?_
  have ob_ : ∃ X, X = B.drop 17 := ⟨_, rfl⟩
  obtain ⟨X, hX⟩ := ob_
  have gB : Gives [OwnB (.slice (some ⟨ba, oa, none⟩) B.length B.length) B] (Bytes (.slice (some ⟨ba, oa, none⟩) B.length B.length) B) := Gives.ownO (v := .slice (some ⟨ba, oa, none⟩) B.length B.length)
  have hct := cut_bytes (l := 17) (h := B.length) gB (Nat.le_refl _) (by omega) (Nat.le_refl _)
  rw [show (B.drop 17).take (B.length - 17) = X by rw [hX]; exact List.take_of_length_le (by rw [List.length_drop]; omega)] at hct
  obtain ⟨aX, cX, hcut, gX⟩ := hct
  have hXl : X.length = B.length - 17 := by rw [hX, List.length_drop]
  have h := closeCn (T := 115) (b := bc) (c := { c with say := c.say || !c.met || decide ((B.getD 0 0).toNat = 1), peer := valN B 0, known := true, met := true }) (ao := ao) (co := co) (ai := ai) (ci := ci) ⟨⟨hwn.1, valN_lt B 0, hwn.2.2.1, hwn.2.2.2⟩, hwo, hwi, hws⟩ (((h.fetch (OwnB (.slice ai c.inb.length ci) c.inb)).fetch (OwnB (.slice ao c.out.length co) c.out)).fetch (blk bc _ 115))
  refine W.region (WL.m (WL.m (WL.m (WL.m (WL.v (run_cutLV (n := B.length) (l := 17) underlying26 sizeOf5 rfl rfl (by omega) hcut) (WL.e (eff_call call64 (ctake_ok (c := { c with say := c.say || !c.met || decide ((B.getD 0 0).toNat = 1), peer := valN B 0, known := true, met := true }) (ack := valN B 2) (at_ := valN B 3) (bs := X) (valN_lt B 2) (valN_lt B 3) (by omega) h (Gives.to gX))) ?_))))))
  rintro _ w h
  refine WL.nil (bodyQ.fall (bodyQ.r0 results26 ?_))
  have e := inB_take (c := c) (B := B) hn1 (by rintro (e | e); omega; omega)
  rw [e, ← hX]
  exact h.to
 refine WL.m (WL.v (run_extract rfl rfl) (WL.v (run_extract rfl rfl) (WL.a (WL.z (W.seq (W.seq ?_))))))
 refine W.region (WL.m (WL.v (run_neqT rfl rfl (ho2)) (WL.m (WL.s (WL.s (WL.s (WL.pt ?_)))))))
 refine WL.m (WL.s (WL.s (WL.s (WL.s (WL.pt (WL.m (WL.s ?_)))))))
 refine WL.s (WL.s (WL.s (WL.pt (WL.nil (W.ct (W.ret (bodyQ.r0 results26 ?_)))))))
 rw [inP_no (.inl ho2)]
 exact closeCn hw h
end Go.Proofs.YtjfmjbmkkpkppaaGreatDoor
namespace Go.Sl
open Go
section
variable {P : Program} {W0 w : World} {L : List HProp} {ρ : Operand → Value} {d : Option Nat} {ty : TypeId} {pos : String} {af : Array Edge} {g : Option (Nat × Bool)}
end
section
variable {kvs : List KV} {seen : Array Nat}
end
end Go.Sl
namespace Go.Sl.UnM
open Go Go.Sl Go.Sl.BitM Go.Sl.SpM Go.Sl.RsM Go.Sl.ByM
def keepM (D : List (Int × Rp)) (fl : Int) : List (Int × Rp) := D.filter fun x => decide (fl ≤ x.1)
section
variable {W0 w : World} {L : List HProp} {pool : PoolL} {D : List (Int × Rp)} {kvs ks : List KV} {fl id : Int} {seen : Array Nat} {ck : Nat}
def kept (u u' : Un) : Prop := u'.g.length = u.g.length ∧ (∀ j, j < 8 → (u'.guest j).floor = (u.guest j).floor ∧ (u'.guest j).done = (u.guest j).done) ∧ ∀ k, small k u → small (k + 1) u'
theorem small_le {u : Un} {k m : Nat} (h : small k u) (hk : k ≤ m) : small m u := fun i hi => Nat.le_trans (h i hi) hk
theorem tellM_len (l : List Int) (x : Int) : (tellM l x).length ≤ l.length + 1 := by
 unfold tellM
 split
 · omega
 simp
theorem notM_s {code : Int} : ∀ (l : List Nat) {u : Un}, (notM u code l).s = u.s ∧ (notM u code l).t = u.t
 | [], u => ⟨rfl, rfl⟩
 | n :: l, u => notM_s l (u := u.tell n code)
theorem hosts_nodup {K : Nat → Int} {h : Int} {p : Int → Bool} {n : Nat} : (hostsN K h p n).Nodup := List.nodup_range.filter _
theorem told_nodup {t : Tb} {h : Int} : (t.told h).Nodup := by
 unfold Tb.told
 split
 · exact hosts_nodup
 exact List.nodup_nil
theorem told_lt {t : Tb} {h : Int} : ∀ j ∈ t.told h, j < 8 := fun j hj => by
 unfold Tb.told at hj
 split at hj
 · exact (hostsN_mem.1 hj).1
 cases hj
def okL (v : Rv) : Prop := v.l.Nodup ∧ (∀ j ∈ v.l, j < 8) ∧ (v.l ≠ [] → 0 ≤ v.code ∧ v.code < 65536) ∧ v.l.length ≤ 8
theorem okL_of {t : Tb} {r : Rp} {l : List Nat} {code : Int} (h1 : l.Nodup) (h2 : ∀ j ∈ l, j < 8) (h3 : 0 ≤ code ∧ code < 65536) (h4 : l.length ≤ 8) : okL ⟨t, r, l, code⟩ := ⟨h1, h2, fun _ => h3, h4⟩
theorem okL_no {t : Tb} {r : Rp} {code : Int} : okL ⟨t, r, [], code⟩ := ⟨List.nodup_nil, fun j hj => (by cases hj), fun h => absurd rfl h, Nat.zero_le _⟩
theorem hosts_lt {K : Nat → Int} {h : Int} {p : Int → Bool} {n : Nat} : ∀ j ∈ hostsN K h p n, j < n := fun j hj => (hostsN_mem.1 hj).1
theorem regF_l {t : Tb} {i : Nat} {key fresh : Int} {ign : Bool} : okL (regF t i key fresh ign) := by
 unfold regF
 split
 · unfold regO
   split
   · exact okL_of told_nodup told_lt ⟨by decide, by decide⟩ told_len
   exact okL_no
 exact okL_no
theorem rvM_l {t : Tb} {i : Nat} {c : Cm} : okL (rvM t i c) := by
 unfold rvM
 split
 · exact regF_l
 split
 · exact regF_l
 split
 · unfold rsvF
   repeat' split
   all_goals exact okL_no
 split
 · unfold relF
   repeat' split
   all_goals first
     | exact okL_no
     | exact okL_of told_nodup told_lt ⟨by decide, by decide⟩ told_len
 split
 · unfold clrF
   split
   · exact okL_no
   exact okL_of hosts_nodup hosts_lt ⟨by decide, by decide⟩ (hostsN_len ..)
 unfold preF
 repeat' split
 all_goals first
   | exact okL_no
   | exact okL_of (show (preL _ _ _).Nodup from hosts_nodup) (show ∀ j ∈ preL _ _ _, j < 8 from hosts_lt) ⟨by decide, by decide⟩ (show (preL _ _ _).length ≤ 8 from hostsN_len ..)
theorem rvM_r {t : Tb} {i : Nat} {c : Cm} : (rvM t i c).r.data = [] := by
 have hreg : ∀ key fresh ign, (regF t i key fresh ign).r.data = [] := fun key fresh ign => by unfold regF; split <;> rfl
 unfold rvM
 split
 · exact hreg _ _ _
 split
 · exact hreg _ _ _
 split
 · unfold rsvF; repeat' split
   all_goals rfl
 split
 · unfold relF; repeat' split
   all_goals rfl
 split
 · unfold clrF; split <;> rfl
 unfold preF; repeat' split
 all_goals rfl
theorem keysN_len (K : Nat → Int) : ∀ n, (keysN K n).length ≤ n
 | 0 => Nat.le_refl _
 | n + 1 => by
   have := keysN_len K n
   unfold keysN
   rw [List.length_append]
   split
   · show _ + 0 ≤ _; omega
   show _ + 1 ≤ _; omega
theorem flat8_len (l : List Int) : (l.flatMap fun k => be k.toNat 8).length = 8 * l.length := by
 induction l with
 | nil => rfl
 | cons x l ih => rw [List.flatMap_cons, List.length_append, be_length, ih, List.length_cons]; omega
theorem keysB_len (t : Tb) : (keysB t).length = 8 + 8 * (keysN t.K 8).length := by
 unfold keysB; rw [List.length_append, List.length_append, be_length, be_length, flat8_len]
theorem holdB_len (t : Tb) : (holdB t).length ≤ 24 := by
 unfold holdB
 split <;> simp only [List.length_append, be_length] <;> omega
section
variable {u : Un} {i : Nat} {c : Cm} {id floor : Int}
end
end
def okT (t : Tb) : Prop := (∀ i, i < 8 → 0 ≤ t.K i ∧ t.K i < 18446744073709551616) ∧ 0 ≤ t.gen ∧ t.gen < 4294967296
end Go.Sl.UnM
namespace Go.Sl.UnM
open Go Go.Sl Go.Sl.BitM Go.Sl.SpM Go.Sl.RsM Go.Sl.ByM
def kV (l : List Int) : List Value := l.map (Value.int .u64)
theorem kV_get {l : List Int} {k : Nat} {x : Int} (h : l[k]? = some x) : ((kV l).drop (k * 1)).take 1 = [.int .u64 x] := by
 have hlt := (List.getElem?_eq_some_iff.1 h).1
 have he := (List.getElem?_eq_some_iff.1 h).2
 unfold kV
 rw [Nat.mul_one, ← List.map_drop, ← List.map_take, List.drop_eq_getElem_cons hlt, List.take_succ_cons, List.take_zero, he]
 rfl
theorem kV_app (l m : List Int) : kV l ++ kV m = kV (l ++ m) := by unfold kV; rw [List.map_append]
def keysP (g n : Nat) (l : List Int) (k : Nat) : List UInt8 := be g 4 ++ be n 4 ++ (l.take k).flatMap fun k => be k.toNat 8
theorem keysP_len {g n : Nat} {l : List Int} {k : Nat} (h : k ≤ l.length) : (keysP g n l k).length = 8 + 8 * k := by
 unfold keysP; rw [List.length_append, List.length_append, be_length, be_length, flat8_len, List.length_take]; omega
theorem keysP_succ {g n : Nat} {l : List Int} {k : Nat} {x : Int} (h : l[k]? = some x) : keysP g n l k ++ be x.toNat 8 = keysP g n l (k + 1) := by
 unfold keysP; rw [List.take_add_one, h, List.flatMap_append, List.append_assoc]; simp
theorem keysP_zero {g n : Nat} {l : List Int} : keysP g n l 0 = be g 4 ++ be n 4 := by unfold keysP; simp
theorem keysP_all (t : Tb) : keysP t.gen.toNat (8 * (keysN t.K 8).length) (keysN t.K 8) (keysN t.K 8).length = keysB t := by
 unfold keysP keysB; rw [List.take_length]
theorem keysN_mem {K : Nat → Int} {x : Int} : ∀ {n : Nat}, x ∈ keysN K n → ∃ i, i < n ∧ x = K i
 | 0, h => by cases h
 | n + 1, h => by
   unfold keysN at h
   rcases List.mem_append.1 h with h | h
   · obtain ⟨i, hi, e⟩ := keysN_mem h
     exact ⟨i, by omega, e⟩
   split at h
   · cases h
   rw [List.mem_singleton] at h
   exact ⟨n, by omega, h⟩
theorem notM_snoc {u : Un} {code : Int} {l : List Nat} {i : Nat} : notM u code (l ++ [i]) = (notM u code l).tell i code := by unfold notM; rw [List.foldl_append]; rfl
theorem notM_take {u : Un} {code : Int} {l : List Nat} {k i : Nat} (h : l[k]? = some i) : (notM u code (l.take k)).tell i code = notM u code (l.take (k + 1)) := by
 rw [List.take_add_one, h, Option.toList_some, notM_snoc]
theorem tell_clen {u : Un} {n : Nat} {x : Int} {j : Nat} (h8 : u.g.length = 8) (hj : j < 8) : ((u.tell n x).guest j).codes.length ≤ (u.guest j).codes.length + 1 := by
 unfold Un.tell
 by_cases e : n = j
 · subst e; rw [guest_put h8 hj]; exact tellM_len _ _
 rw [guest_other e]; omega
theorem notM_clen {code : Int} {j : Nat} (hj : j < 8) : ∀ (l : List Nat) {u : Un}, u.g.length = 8 → ((notM u code l).guest j).codes.length ≤ (u.guest j).codes.length + l.length
 | [], u, _ => Nat.le_refl _
 | n :: l, u, h8 => by
   have h1 := notM_clen (code := code) hj l (u := u.tell n code) (tell_len h8)
   have h2 := tell_clen (n := n) (x := code) h8 hj
   rw [List.length_cons]
   exact Nat.le_trans h1 (by omega)
def goodT (t : Tb) : Prop := okT t ∧ RsM.inv t
def okCm (c : Cm) : Prop := (0 ≤ c.key ∧ c.key < 18446744073709551616) ∧ 0 ≤ c.new ∧ c.new < 18446744073709551616
theorem okT_inc {t : Tb} (h : okT t) : okT t.inc := by
 obtain ⟨h1, h2, h3⟩ := h
 refine ⟨h1, ?_⟩
 show 0 ≤ IntKind.u32.wrap (t.gen + 1) ∧ IntKind.u32.wrap (t.gen + 1) < 4294967296
 have e : IntKind.wrap .u32 (t.gen + 1) = (t.gen + 1) % 4294967296 := by simp [IntKind.wrap, IntKind.signed, IntKind.bits]
 rw [e]
 omega
theorem okT_put {t : Tb} {i : Nat} {x : Int} (h : okT t) (hx : 0 ≤ x ∧ x < 18446744073709551616) : okT (t.put i x) := by
 obtain ⟨h1, h2⟩ := h
 refine ⟨fun j hj => ?_, h2⟩
 show 0 ≤ (if j = i then x else t.K j) ∧ (if j = i then x else t.K j) < _
 split
 · exact hx
 exact h1 j hj
theorem okT_freed {t : Tb} (h : okT t) : okT t.freed := h
theorem okT_take {t : Tb} {h_ y : Int} (h : okT t) : okT (t.take h_ y) := h
theorem okT_cleared {t : Tb} (h : okT t) : okT t.cleared := ⟨fun i hi => ⟨Int.le_refl 0, by show (0 : Int) < _; decide⟩, (okT_inc h).2⟩
theorem okT_zer {t : Tb} {l : List Nat} (h : okT t) : okT (zer t l) := by
 obtain ⟨h1, h2⟩ := h
 refine ⟨fun j hj => ?_, h2⟩
 show 0 ≤ (if j ∈ l then (0 : Int) else t.K j) ∧ (if j ∈ l then (0 : Int) else t.K j) < _
 split
 · exact ⟨Int.le_refl 0, by decide⟩
 exact h1 j hj
theorem okKB_ok {t : Tb} {i : Nat} {key : Int} (hi : i < 8) (h : okKB t i key = true) : okM t i key := by
 unfold okKB at h
 rw [Bool.and_eq_true, Bool.not_eq_true', decide_eq_false_iff_not, decide_eq_true_eq] at h
 exact ⟨i, rfl, hi, h.1, h.2⟩
theorem goodT_reg {t : Tb} {i : Nat} {key fresh : Int} {ign : Bool} (hi : i < 8) (h : goodT t) (hf : 0 ≤ fresh ∧ fresh < 18446744073709551616) : goodT (regF t i key fresh ign).t := by
 unfold regF
 split
 · refine ⟨?_, inv_reg h.2 hi⟩
   show okT (regO t i fresh).2
   unfold regO
   split
   · exact okT_put (okT_freed (okT_inc h.1)) hf
   exact okT_put (okT_inc h.1) hf
 exact h
theorem goodT_rv {t : Tb} {i : Nat} {c : Cm} (hi : i < 8) (h : goodT t) (hc : okCm c) : goodT (rvM t i c).t := by
 unfold rvM
 split
 · exact goodT_reg hi h hc.2
 split
 · exact goodT_reg hi h hc.2
 split
 · unfold rsvF
   split
   · exact h
   rename_i ho
   split
   · exact h
   rename_i hty
   split
   · exact ⟨okT_take h.1, inv_take (okKB_ok hi (by simpa using ho)) (by simpa using hty)⟩
   split <;> exact h
 split
 · unfold relF
   repeat' split
   all_goals first
     | exact h
     | exact ⟨okT_freed h.1, inv_freed⟩
 split
 · unfold clrF
   split
   · exact h
   exact ⟨okT_cleared h.1, inv_cleared⟩
 unfold preF
 split
 · exact h
 rename_i ho
 split
 · exact h
 rename_i h0
 split
 · exact h
 rename_i hl
 split
 · exact h
 rename_i hty
 refine ⟨?_, inv_pre h.2 ⟨okKB_ok hi (by simpa using ho), h0, hl, fun htk => ?_⟩⟩
 · show okT (zer (preT0 t i c.new c.typ) _)
   refine okT_zer ?_
   unfold preT0
   split
   · exact okT_inc (okT_take h.1)
   exact okT_inc h.1
 cases hb : typedB c.typ with
 | true => rfl
 | false => exact absurd ⟨htk, hb⟩ hty
theorem goodT_typ {t : Tb} (h : goodT t) : 0 ≤ t.typ ∧ t.typ < 16 := by
 rcases h.2 with ⟨_, h2⟩ | ⟨_, _, _, h2⟩
 · omega
 have := typedB_iff.1 h2; omega
theorem goodT_hold {t : Tb} (h : goodT t) : t.hold = -1 ∨ (0 ≤ t.hold ∧ t.hold < 8) := inv_hold h.2
def goodU (u : Un) : Prop := goodT u.t ∧ okC u
theorem okC_tell {u : Un} {n : Nat} {x : Int} (h8 : u.g.length = 8) (h : okC u) (hx : 0 ≤ x ∧ x < 65536) : okC (u.tell n x) := fun j hj c hc => by
 unfold Un.tell at hc
 by_cases e : n = j
 · subst e
   rw [guest_put h8 hj] at hc
   have hc : c ∈ tellM (u.guest n).codes x := hc
   unfold tellM at hc
   split at hc
   · exact h n hj c hc
   rcases List.mem_append.1 hc with hc | hc
   · exact h n hj c hc
   rw [List.mem_singleton] at hc; subst hc; exact hx
 rw [guest_other e] at hc
 exact h j hj c hc
theorem okC_not {code : Int} : ∀ (l : List Nat) {u : Un}, u.g.length = 8 → okC u → (l ≠ [] → 0 ≤ code ∧ code < 65536) → okC (notM u code l)
 | [], u, _, h, _ => h
 | n :: l, u, h8, h, hx => okC_not l (u := u.tell n code) (tell_len h8) (okC_tell h8 h (hx (by simp))) (fun _ => hx (by simp))
theorem okC_reset {u : Un} (h8 : u.g.length = 8) (h : okC u) : ∀ n, okC (resetN u n)
 | 0 => h
 | n + 1 => okC_tell (resetN_len h8 n) (okC_reset h8 h n) (by decide)
theorem okC_pop {u : Un} {i : Nat} (h8 : u.g.length = 8) (h : okC u) : okC (u.putG i (u.guest i).pop) := fun j hj c hc => by
 by_cases e : i = j
 · subst e
   rw [guest_put h8 hj] at hc
   exact h i hj c (List.mem_of_mem_drop hc)
 rw [guest_other e] at hc
 exact h j hj c hc
theorem resetN_ts (u : Un) : ∀ n, (resetN u n).t = u.t ∧ (resetN u n).s = u.s
 | 0 => ⟨rfl, rfl⟩
 | n + 1 => resetN_ts u n
theorem goodU_act {u : Un} {i : Nat} {c : Cm} (h8 : u.g.length = 8) (hi : i < 8) (h : goodU u) (hc : okCm c) : goodU (actM u i c).1 := by
 unfold actM
 split
 · exact h
 split
 · exact h
 split
 · exact h
 split
 · exact h
 split
 · refine ⟨?_, okC_reset h8 h.2 8⟩
   show goodT (resetN u 8).t
   rw [(resetN_ts u 8).1]; exact h.1
 unfold resM
 split
 · exact h
 split
 · exact h
 refine ⟨?_, okC_not _ (u := u.setT (rvM u.t i c).t) h8 h.2 rvM_l.2.2.1⟩
 show goodT (notM _ _ _).t
 rw [(notM_s _).2]
 exact goodT_rv hi h.1 hc
theorem goodU_do {u : Un} {hh : Int} {c : Cm} (h8 : u.g.length = 8) (h : goodU u) (hc : okCm c) : goodU (doM u hh c).1 := by
 unfold doM
 split
 · exact h
 rename_i hn
 have hh8 : hh.toNat < 8 := by
   cases hb : hostB hh with
   | false => exact absurd (.inl hb) hn
   | true => have := hostB_iff.1 hb; omega
 split
 · split
   · exact h
   exact ⟨h.1, okC_pop h8 h.2⟩
 split
 · exact ⟨h.1, okC_pop h8 h.2⟩
 split
 · exact h
 exact goodU_act h8 hh8 h hc
theorem goodU_new (n : Nat) : goodU (newU n) := by
 refine ⟨⟨⟨fun i hi => ⟨Int.le_refl 0, by show (0 : Int) < _; decide⟩, (by show (0 : Int) ≤ 0; decide), (by show (0 : Int) < 4294967296; decide)⟩, inv_new⟩, fun i hi c hc => ?_⟩
 have e : ((newU n).guest i).codes = [] := by
   unfold Un.guest newU
   simp only []
   rw [List.getD_eq_getElem?_getD, List.getElem?_replicate, if_pos hi]; rfl
 rw [e] at hc; cases hc
theorem actM_rv {u : Un} {i : Nat} {c : Cm} (h1 : 10 ≤ c.kind) (h2 : c.kind ≤ 15) : actM u i c = (notM (u.setT (rvM u.t i c).t) (rvM u.t i c).code (rvM u.t i c).l, (rvM u.t i c).r) := by
 unfold actM resM
 rw [if_neg (by omega), if_neg (by omega), if_neg (by omega), if_neg (by omega), if_neg (by omega), if_neg (by omega), if_neg (by omega)]
theorem actM_keys {u : Un} {i : Nat} {c : Cm} (h : c.kind = 16) : actM u i c = (u, gave (keysB u.t)) := by
 unfold actM resM
 rw [if_neg (by omega), if_neg (by omega), if_neg (by omega), if_neg (by omega), if_neg (by omega), if_pos h]
theorem actM_hold {u : Un} {i : Nat} {c : Cm} (h : c.kind = 17) : actM u i c = (u, gave (holdB u.t)) := by
 unfold actM resM
 rw [if_neg (by omega), if_neg (by omega), if_neg (by omega), if_neg (by omega), if_neg (by omega), if_neg (by omega), if_pos h]
theorem rvM_reg {t : Tb} {i : Nat} {c : Cm} (h : c.kind = 10 ∨ c.kind = 11) : rvM t i c = regF t i c.key c.new (decide (c.kind = 11)) := by
 unfold rvM
 rcases h with h | h
 · rw [if_pos h, decide_eq_false (by omega)]
 rw [if_neg (by omega), if_pos h, decide_eq_true h]
theorem rvM_rsv {t : Tb} {i : Nat} {c : Cm} (h : c.kind = 12) : rvM t i c = rsvF t i c.key c.typ := by unfold rvM; rw [if_neg (by omega), if_neg (by omega), if_pos h]
theorem rvM_rel {t : Tb} {i : Nat} {c : Cm} (h : c.kind = 13) : rvM t i c = relF t i c.key c.typ := by unfold rvM; rw [if_neg (by omega), if_neg (by omega), if_neg (by omega), if_pos h]
theorem rvM_clr {t : Tb} {i : Nat} {c : Cm} (h : c.kind = 14) : rvM t i c = clrF t i c.key := by unfold rvM; rw [if_neg (by omega), if_neg (by omega), if_neg (by omega), if_neg (by omega), if_pos h]
theorem rvM_pre {t : Tb} {i : Nat} {c : Cm} (h : c.kind = 15) : rvM t i c = preF t i c.key c.new c.typ := by unfold rvM; rw [if_neg (by omega), if_neg (by omega), if_neg (by omega), if_neg (by omega), if_neg (by omega)]
theorem rsvF_l {t : Tb} {i : Nat} {key typ : Int} : (rsvF t i key typ).l = [] := by
 unfold rsvF
 repeat' split
 all_goals rfl
section
variable {W0 w : World} {L : List HProp}
theorem On.nilData {r : Rp} (hd : r.data = []) (h : On W0 L w) : On W0 (OwnB (.slice none 0 0) r.data :: L) w := by rw [hd]; exact h.ownEmpty 1 none
end
end Go.Sl.UnM
namespace Go.Sl.TpM
open Go Go.Sl Go.Sl.ByM Go.Sl.UnM
abbrev Str := List UInt8
abbrev Pr := Str × Str
def encPr (p : Pr) : Str := p.1 ++ [61] ++ p.2 ++ [0]
def inB (c lo hi : UInt8) : Bool := decide (lo.toNat ≤ c.toNat) && decide (c.toNat ≤ hi.toNat)
def signB (c : UInt8) : Bool := inB c 65 90 || inB c 97 122 || inB c 48 57 || decide (0 ≤ Go.Lib.indexByte [46, 45, 43, 64, 95] c)
def rightB (p : Pr) : Bool := decide (0 < p.1.length) && decide (p.1.length ≤ 63) && p.1.all signB && decide (p.2.length ≤ 255) && decide (Go.Lib.indexByte p.2 0 < 0)
def distinct : List Str → Bool
 | [] => true
 | k :: l => !l.contains k && distinct l
def prCells (p : Pr) : List Value := [.string ⟨p.1.toArray⟩, .string ⟨p.2.toArray⟩]
theorem prCells_length (p : Pr) : (prCells p).length = 2 := rfl
def encT' (l : List Pr) : Option Str := if l.all rightB && distinct (l.map (·.1)) && decide ((l.flatMap encPr).length ≤ 4096) then some (l.flatMap encPr) else none
theorem encT_some {l : List Pr} {b : Str} (h : encT' l = some b) : l.all rightB = true ∧ distinct (l.map (·.1)) = true ∧ b = l.flatMap encPr ∧ b.length ≤ 4096 := by
 unfold encT' at h
 split at h
 · rename_i hc
   simp only [Bool.and_eq_true, decide_eq_true_eq] at hc
   cases h
   exact ⟨hc.1.1, hc.1.2, rfl, hc.2⟩
 cases h
theorem distinct_at : ∀ {l : List Str} {k : Nat} {x : Str}, distinct l = true → l[k]? = some x → x ∉ l.take k
 | [], _, _, _, h => by cases h
 | a :: l, 0, x, _, h => by simp
 | a :: l, k + 1, x, hd, h => by
   simp only [distinct, Bool.and_eq_true, Bool.not_eq_true'] at hd
   intro hm
   rw [List.take_succ_cons] at hm
   rcases List.mem_cons.1 hm with e | hm
   · have hx : x ∈ l := List.mem_of_getElem? (by simpa using h)
     rw [e] at hx
     have := List.contains_iff_mem.2 hx
     rw [this] at hd; cases hd.1
   exact distinct_at hd.2 (by simpa using h) hm
theorem right_len {p : Pr} (h : rightB p = true) : p.1.length ≤ 63 ∧ p.2.length ≤ 255 := by
 unfold rightB at h
 simp only [Bool.and_eq_true, decide_eq_true_eq] at h
 exact ⟨h.1.1.1.2, h.1.2⟩
def decT' : Nat → Str → List Str → Option (List Pr)
 | 0, _, _ => none
 | f + 1, s, had => if s = [] then some [] else
   if (Go.Lib.cut s [0]).2.2 && (Go.Lib.cut (Go.Lib.cut s [0]).1 [61]).2.2 && rightB ((Go.Lib.cut (Go.Lib.cut s [0]).1 [61]).1, (Go.Lib.cut (Go.Lib.cut s [0]).1 [61]).2.1) && !had.contains (Go.Lib.cut (Go.Lib.cut s [0]).1 [61]).1 then
     (decT' f (Go.Lib.cut s [0]).2.1 (had ++ [(Go.Lib.cut (Go.Lib.cut s [0]).1 [61]).1])).map fun l => ((Go.Lib.cut (Go.Lib.cut s [0]).1 [61]).1, (Go.Lib.cut (Go.Lib.cut s [0]).1 [61]).2.1) :: l
   else none
def decTx (b : Str) : Option (List Pr) := if b.length ≤ 4096 then decT' (b.length + 1) b [] else none
def digitB (c : UInt8) : Bool := inB c 48 57
def numB (s : Str) : Option Nat := if Go.Lib.hasPrefix s [48, 120] then none else if decide (1 < s.length) && decide ((((s.getD 0 0).toNat : Nat) : Int) = 48) then none else if s.length = 0 ∨ 9 < s.length ∨ s.all digitB = false then none else
 match Go.Lib.parseIntB 64 s with
 | .ok v => if 0 ≤ v then some v.toNat else none
 | _ => none
def itoaK : Nat → Nat → Str
 | 0, _ => []
 | f + 1, n => if n < 10 then [UInt8.ofNat (48 + n)] else itoaK f (n / 10) ++ [UInt8.ofNat (48 + n % 10)]
def itoaB (n : Nat) : Str := itoaK 20 n
theorem itoaK_eq : ∀ (f n : Nat), n < 10 ^ (f + 1) → itoaK (f + 1) n = Go.Lib.decDigits n
 | 0, n, h => by
   unfold itoaK Go.Lib.decDigits
   have h' : n < 10 := by simpa using h
   rw [if_pos h', dif_pos h']
 | f + 1, n, h => by
   unfold itoaK Go.Lib.decDigits
   by_cases h' : n < 10
   · rw [if_pos h', dif_pos h']
   rw [if_neg h', dif_neg h', itoaK_eq f (n / 10) (by rw [Nat.pow_succ] at h; omega)]
theorem itoaB_eq {n : Nat} (h : n ≤ 1000000) : Go.Lib.itoa (n : Int) = itoaB n := by
 unfold Go.Lib.itoa itoaB
 rw [if_neg (by omega), itoaK_eq 19 n (by have : (1000000 : Nat) < 10 ^ (19 + 1) := by decide
                                          omega)]
 rfl
def nsB (c : UInt8) : Bool := inB c 97 122 || inB c 48 57 || decide (((c.toNat : Nat) : Int) = 46) || decide (((c.toNat : Nat) : Int) = 45) || decide (((c.toNat : Nat) : Int) = 58)
def nameB (s : Str) : Bool := Go.Lib.hasPrefix s [105, 113, 110, 46] && decide (0 < (Go.Lib.trimPrefix s [105, 113, 110, 46]).length) && decide ((Go.Lib.trimPrefix s [105, 113, 110, 46]).length ≤ 219) && (Go.Lib.trimPrefix s [105, 113, 110, 46]).all nsB
structure Pm where
 name : Str
 maxd : Nat
 burst : Nat
 imm : Bool
 dig : Bool
def Pm.cells (p : Pm) : List Value := [.string ⟨p.name.toArray⟩, .int .i64 (p.maxd : Int), .int .i64 (p.burst : Int), .bool p.imm, .bool p.dig]
def zPm : Pm := ⟨[], 0, 0, false, false⟩
structure okPm (p : Pm) : Prop where
 name : p.name.length ≤ 1000
 maxd : p.maxd ≤ 1000000
 burst : p.burst ≤ 1000000
def wordB (b : Bool) : Str := if b then [89, 101, 115] else [78, 111]
def askB (p : Pm) : List Pr := [([73, 110, 105, 116, 105, 97, 116, 111, 114, 78, 97, 109, 101], p.name), ([77, 97, 120, 82, 101, 99, 118, 68, 97, 116, 97, 83, 101, 103, 109, 101, 110, 116, 76, 101, 110, 103, 116, 104], itoaB p.maxd), ([77, 97, 120, 66, 117, 114, 115, 116, 76, 101, 110, 103, 116, 104], itoaB p.burst), ([73, 109, 109, 101, 100, 105, 97, 116, 101, 68, 97, 116, 97], wordB p.imm), ([72, 101, 97, 100, 101, 114, 68, 105, 103, 101, 115, 116], if p.dig then [67, 82, 67, 51, 50, 67, 44, 78, 111, 110, 101] else [78, 111, 110, 101])]
def ours : Pm := ⟨[], 4096, 8192, true, true⟩
def sizeB (n : Nat) (v : Str) : Option Nat := (numB v).bind fun x => if x < 512 ∨ 16777215 < x then none else some (min n x)
def splitL (s : Str) : List Str := Go.Lib.splitK [44] 0 (Go.Lib.count s [44]) s
def chooseB (l may : Str) : Option Str := (splitL l).find? fun s => (splitL may).contains s
def boolB (s : Str) : Option Bool := if s = [89, 101, 115] then some true else if s = [78, 111] then some false else none
def keyB (p : Pm) (x : Pr) : Option (Pm × List Pr) :=
 if x.1 = [73, 110, 105, 116, 105, 97, 116, 111, 114, 78, 97, 109, 101] then (if nameB x.2 then some ({ p with name := x.2 }, []) else none) else
 if x.1 = [77, 97, 120, 82, 101, 99, 118, 68, 97, 116, 97, 83, 101, 103, 109, 101, 110, 116, 76, 101, 110, 103, 116, 104] then (sizeB p.maxd x.2).map fun n => ({ p with maxd := n }, []) else
 if x.1 = [77, 97, 120, 66, 117, 114, 115, 116, 76, 101, 110, 103, 116, 104] then (sizeB p.burst x.2).map fun n => ({ p with burst := n }, [(x.1, itoaB n)]) else
 if x.1 = [73, 109, 109, 101, 100, 105, 97, 116, 101, 68, 97, 116, 97] then (boolB x.2).map fun b => ({ p with imm := p.imm && b }, [(x.1, wordB (p.imm && b))]) else
 if x.1 = [72, 101, 97, 100, 101, 114, 68, 105, 103, 101, 115, 116] then (chooseB x.2 [67, 82, 67, 51, 50, 67, 44, 78, 111, 110, 101]).map fun (c : Str) => ({ p with dig := decide (c = [67, 82, 67, 51, 50, 67]) }, [(x.1, c)]) else none
def negK : Pm → List Pr → List Pr → Option (Pm × List Pr)
 | p, out, [] => some (p, out)
 | p, out, x :: l => (keyB p x).bind fun q => negK q.1 (out ++ q.2) l
def negB (acl : List Str) (asked : List Pr) : Option (Pm × List Pr) := (negK { ours with name := [], dig := false } [] asked).bind fun q => if q.1.name ≠ [] ∧ acl.contains q.1.name then some q else none
def takeK (us : Pm) : Pm → List Pr → Option Pm
 | p, [] => some p
 | p, x :: l =>
   (if x.1 = [77, 97, 120, 66, 117, 114, 115, 116, 76, 101, 110, 103, 116, 104] then (numB x.2).map fun n => { p with burst := min p.burst n } else
    if x.1 = [73, 109, 109, 101, 100, 105, 97, 116, 101, 68, 97, 116, 97] then (boolB x.2).map fun b => { p with imm := p.imm && b } else
    if x.1 = [72, 101, 97, 100, 101, 114, 68, 105, 103, 101, 115, 116] then some { p with dig := us.dig && decide (x.2 = [67, 82, 67, 51, 50, 67]) } else some p).bind fun q => takeK us q l
def takeB (us : Pm) (l : List Pr) : Option Pm := takeK us { us with dig := false } l
structure Cd where
 kind : Int
 op : UInt8
 sub : UInt8
 at_ : Bool
 n : Bool
 short : Bool
 force : Bool
 typ : Bool
 par : Bool
def codesL : List Cd := [⟨1, 0, 0, false, false, false, false, false, false⟩, ⟨9, 3, 0, false, false, false, false, false, false⟩, ⟨8, 18, 0, false, false, false, false, false, false⟩, ⟨7, 37, 0, false, false, false, false, false, false⟩, ⟨2, 136, 0, true, true, false, false, false, false⟩, ⟨3, 138, 0, true, true, false, true, false, false⟩, ⟨4, 145, 0, true, true, false, false, false, false⟩, ⟨5, 66, 0, true, true, false, false, false, false⟩, ⟨6, 137, 0, true, false, true, true, false, false⟩, ⟨10, 95, 0, false, false, false, false, false, true⟩, ⟨12, 95, 1, false, false, false, false, true, true⟩, ⟨13, 95, 2, false, false, false, false, true, true⟩, ⟨14, 95, 3, false, false, false, false, false, true⟩, ⟨15, 95, 4, false, false, false, false, true, true⟩, ⟨11, 95, 6, false, false, false, false, false, true⟩, ⟨16, 94, 0, false, false, false, false, false, true⟩, ⟨17, 94, 1, false, false, false, false, false, true⟩]
def Cd.cells (x : Cd) : List Value := [.int .i64 x.kind, .int .u8 (x.op.toNat : Int), .int .u8 (x.sub.toNat : Int), .bool x.at_, .bool x.n, .bool x.short, .bool x.force, .bool x.typ, .bool x.par]
theorem Cd.cells_length (x : Cd) : x.cells.length = 9 := rfl
def codesV : List (Nat × Value) := (List.range 17).map fun i => (i, .agg ((codesL.getD i ⟨0, 0, 0, false, false, false, false, false, false⟩).cells.toArray))
theorem codesV_lt : ∀ p ∈ codesV, p.1 < 17 := by
 intro p hp
 obtain ⟨i, hi, e⟩ := List.mem_map.1 hp
 rw [← e]; exact List.mem_range.1 hi
def encC (c : Cm) : Option (List UInt8) := (codesL.find? fun x => decide (x.kind = c.kind)).bind fun x =>
 if x.typ || (x.at_ && (decide (c.at_ < 0) || decide (c.n < 0))) || (x.n && decide (4294967295 < c.n)) || (x.short && decide (255 < c.n)) then none else
 some ([x.op, if x.force && c.force then 8 else x.sub] ++ (if x.at_ then be c.at_.toNat 8 else List.replicate 8 0) ++ (if x.n then be c.n.toNat 4 else if x.short then [0, 0, 0, UInt8.ofNat c.n.toNat] else [0, 0, 0, 0]) ++ [0, 0])
def decC (b : List UInt8) : Option Cm := (codesL.find? fun x => decide (x.op = b.getD 0 0) && (!x.par || decide (x.sub = b.getD 1 0))).bind fun x =>
 if x.at_ && x.n && decide (b.getD 1 0 = 0) && decide ((b.drop 14).take 2 = [0, 0]) && decide (beV ((b.drop 2).take 8) ≤ 4611686018427387904) then some ⟨x.kind, (beV ((b.drop 2).take 8) : Nat), (beV ((b.drop 10).take 4) : Nat), [], 0, 0, 0, false⟩ else none
def runC (n : Int) : Int := if n < 0 ∨ 32 < n then 0 else n * 8
def outN (c : Cm) : Int := if c.kind = 3 then runC c.n else if c.kind = 6 then 2 * runC c.n else if c.kind = 10 ∨ c.kind = 11 ∨ c.kind = 12 ∨ c.kind = 13 ∨ c.kind = 14 ∨ c.kind = 15 then 24 else 0
structure Ak where
 tag : Nat
 cdb : List UInt8
 data : List UInt8
 hav : List UInt8
 sent : Bool
structure Cl where
 p : Pm
 r : Rdr
 open_ : Bool
 asked : Bool
 sn : Nat
 max : Nat
 tag : Nat
 l : Option Ak
 say : List UInt8
 done : Option (Nat × List UInt8)
def newCl (p : Pm) : Cl := ⟨p, ⟨[], 0⟩, false, false, 0, 0, 0, none, [], none⟩
def Cl.do_ (c : Cl) (x : Cm) : Option Cl := (encC x).bind fun b => if c.l.isNone && decide ((x.data.length : Int) = outN x) && (decide (x.kind = 2) || decide (x.kind = 3)) && decide (x.data.length ≤ 4096) && decide (c.tag < 1000) && decide (b.length = 16) then some { c with tag := c.tag + 1, l := some ⟨c.tag + 1, b, x.data, [], false⟩ } else none
def Cl.tell (c : Cl) (p : Pd) : Cl := { c with say := c.say ++ encP p }
def cmdPd (c : Cl) (a : Ak) : Pd := { zPd with op := 1, fin := true, tag := a.tag, sn := c.sn, cdb := a.cdb, data := if c.p.imm then a.data else [] }
def Cl.send (c : Cl) : Option Cl := match c.l with
 | none => none
 | some a => if a.sent then some c else if gapM c.sn c.max < 0 then some c else some { (c.tell (cmdPd c a)) with sn := (c.sn + 1) % 4294967296, l := some { a with sent := true } }
def Cl.out1 (c : Cl) : Option Cl := if c.asked = false then (encT' (askB c.p)).map fun b => Cl.tell { c with asked := true } { zPd with op := 3, fin := true, sn := 1, data := b } else if c.open_ = true then c.send else some c
def Cl.out (c : Cl) : Option (List UInt8 × Cl) := c.out1.map fun c => (c.say, { c with say := [] })
def Cl.login (c : Cl) (p : Pd) : Option Cl := if p.op = 35 ∧ p.st = 0 then (decTx p.data).bind fun l => if l.length ≤ 1000 then (takeB c.p l).bind fun q => if q.name.length ≤ 1000 ∧ q.maxd ≤ 1000000 ∧ q.burst ≤ 1000000 then some { c with p := q, open_ := true, sn := p.exp, max := p.max } else none else none else none
def Cl.meet (c : Cl) (p : Pd) : Cl := if 0 < gapM c.max p.max then { c with max := p.max } else c
def Cl.took (c : Cl) (p : Pd) : Option Cl := match c.l with
 | none => none
 | some a => if a.tag ≠ p.tag then none else
   if p.op = 37 then (if p.off = a.hav.length ∧ a.hav.length < 4096 ∧ p.data.length ≤ 4096 then some { c with l := some { a with hav := a.hav ++ p.data } } else none) else
   if p.op = 33 ∧ p.st = 0 ∧ c.done.isNone = true then some { c with l := none, done := some (a.tag, a.hav) } else none
def Cl.take (c : Cl) (p : Pd) : Option Cl := if c.open_ = false then c.login p else (c.meet p).took p
def Cl.inK : Nat → Cl → Option Cl
 | 0, _ => none
 | f + 1, c => if 900000 < c.r.b.length then none else if c.r.next.1.2 then (Cl.take { c with r := c.r.next.2 } c.r.next.1.1).bind (Cl.inK f) else if c.r.next.2.err = 0 then some { c with r := c.r.next.2 } else none
def Cl.in_ (c : Cl) (b : List UInt8) : Option Cl := if c.r.b.length + b.length ≤ 900000 then Cl.inK (b.length + 1) { c with r := c.r.put b } else none
structure Se where
 r : Rdr
 p : Pm
 open_ : Bool
 exp : Nat
 sn : Nat
 told : List UInt8
def newSe : Se := ⟨⟨[], 0⟩, ⟨[], 0, 0, false, false⟩, false, 0, 1, []⟩
def Se.say (s : Se) (p : Pd) : Se := { s with told := s.told ++ encP { p with exp := s.exp, max := (s.exp + 15) % 4294967296 } }
def Se.sayer (s : Se) (op : Nat) (p : Pd) : Se := Se.say { s with sn := (s.sn + 1) % 4294967296 } { p with op := op, sn := s.sn }
def Se.login (acl : List Str) (s : Se) (p : Pd) : Option Se := if p.op = 3 then (decTx p.data).bind fun l => if 1000 < l.length then none else (negB acl l).bind fun q => (encT' q.2).map fun b =>
 { (Se.sayer { s with p := q.1, exp := (p.sn + 1) % 4294967296 } 35 { zPd with tag := p.tag, st := 0, data := b, fin := true }) with open_ := true } else none
def hostN (name : Str) : Nat := name.length % 8
def Se.done (s : Se) (u : Un) (tag : Nat) (c : Cm) (data : List UInt8) : Option (Se × Un) :=
 let q := doM u (hostN s.p.name : Nat) { c with data := data }
 if u.g.all (fun g => g.codes.isEmpty) = true ∧ q.2.st = 0 ∧ q.2.data.length ≤ s.p.maxd ∧ 0 < s.p.maxd ∧ data.length ≤ 4096 ∧ q.2.data.length ≤ 4096 then
   let s := if q.2.data = [] then s else s.say { zPd with op := 37, tag := tag, off := 0, data := q.2.data, fin := true }
   some (s.sayer 33 { zPd with tag := tag, st := 0, fin := true, len := q.2.data.length }, q.1)
 else none
def Se.take (s : Se) (u : Un) (p : Pd) : Option (Se × Un) := if p.op = 1 ∧ p.sn = s.exp then
 (decC p.cdb).bind fun c => if (c.kind = 2 ∨ c.kind = 3) ∧ (p.data.length : Int) = outN c ∧ (outN c = 0 ∨ s.p.imm = true) then Se.done { s with exp := (s.exp + 1) % 4294967296 } u p.tag c p.data else none else none
def Se.inK (acl : List Str) : Nat → Se → Un → Option (Se × Un)
 | 0, _, _ => none
 | f + 1, s, u => if 80000 < s.told.length ∨ 900000 < s.r.b.length then none else if s.r.next.1.2 then (if s.open_ then Se.take { s with r := s.r.next.2 } u s.r.next.1.1 else (Se.login acl { s with r := s.r.next.2 } s.r.next.1.1).map fun s => (s, u)).bind fun q => Se.inK acl f q.1 q.2 else if s.r.next.2.err = 0 then some ({ s with r := s.r.next.2 }, u) else none
def Se.in_ (acl : List Str) (s : Se) (u : Un) (b : List UInt8) : Option (List UInt8 × Se × Un) := if 900000 < s.r.b.length + b.length then none else (Se.inK acl (b.length + 1) { s with r := s.r.put b, told := [] } u).map fun q => (q.1.told, { q.1 with told := [] }, q.2)
structure Ln where
 c : Cl
 s : Se
 a : Cn
 b : Cn
 w : List UInt8
 v : List UInt8
 u : Un
def aclL : List Str := [[105, 113, 110, 46, 97], [105, 113, 110, 46, 98, 99], [105, 113, 110, 46, 100, 101, 102]]
def Ln.round (l : Ln) : Option Ln := l.c.out.bind fun oc =>
 let w := l.w ++ oc.1
 if 100000 < w.length then none else
 let a := l.a.send w
 let w' := w.drop (l.a.sendN w)
 let b := l.b.send l.v
 let v' := l.v.drop (l.b.sendN l.v)
 let a := a.tick
 let b := b.tick
 let x := a.outL
 let y := b.outL
 let a := a.outC
 let b := b.outC
 let b := x.foldl Cn.inP b
 let a := y.foldl Cn.inP a
 (l.s.in_ aclL l.u b.inb).bind fun q => if 100000 < (v' ++ q.1).length then none else (oc.2.in_ a.inb).map fun c => ⟨c, q.2.1, a.recv, b.recv, w', v' ++ q.1, q.2.2⟩
def Ln.askK : Nat → Ln → Nat → Option (List UInt8 × Ln)
 | 0, _, _ => none
 | f + 1, l, t => l.round.bind fun l => match l.c.done with
   | some x => if x.1 = t then some (x.2, { l with c := { l.c with done := none } }) else none
   | none => Ln.askK f l t
def Ln.ask (l : Ln) (x : Cm) : Option (List UInt8 × Ln) := (l.c.do_ x).bind fun c => Ln.askK 200 { l with c := c } c.tag
def newLn : Ln := ⟨newCl ⟨[105, 113, 110, 46, 97], 512, 1000, true, true⟩, newSe, newC 1 true, newC 2 false, [], [], newU 8⟩
def one7 : List UInt8 := List.replicate 8 7
def runK : Option (List UInt8 × List UInt8) := (newLn.ask ⟨3, 1, 1, one7, 0, 0, 0, false⟩).bind fun q => (q.2.ask ⟨2, 1, 1, [], 0, 0, 0, false⟩).map fun r => (q.1, r.1)
end Go.Sl.TpM
namespace Go.Proofs.YtjfmjbmkkpkppaaGreatDoor
open Go.Proofs.Tryz
open Go Go.Sl Go.Sl.BitM Go.Sl.SpM Go.Sl.RsM Go.Sl.ByM Go.Sl.UnM Go.Sl.TpM
set_option maxHeartbeats 1000000
set_option maxRecDepth 8000
variable {W0 w : World} {L F : List HProp}
theorem codes_ok (h : On W0 L w) : Calls Tryz.prog 73 #[] w (Ret fun v w' => ∃ bq, v = .slice (some ⟨bq, 0, none⟩) 17 17 ∧ On W0 (Own 9 (.slice (some ⟨bq, 0, none⟩) 17 17) 17 (codesL.flatMap Cd.cells) :: L) w') := by
 refine enter func73 rfl ntmps73 rfl (W.sr (WL.z (W.sr (WL.v (run_buildS (pl := qp3) (out := qv2) underlying81 zeroValue81 (fun w => by kernel_rfl) rfl (⟨⟨_, _, rfl, rfl, by decide⟩, ⟨⟨_, _, rfl, rfl, by decide⟩, trivial⟩⟩) rfl) ?_))))
 refine WL.v (run_buildS (pl := qp3) (out := qv2) underlying81 zeroValue81 (fun w => by kernel_rfl) rfl (⟨⟨_, _, rfl, rfl, by decide⟩, ⟨⟨_, _, rfl, rfl, by decide⟩, trivial⟩⟩) rfl) (WL.v (run_buildS (pl := qp3) (out := qv2) underlying81 zeroValue81 (fun w => by kernel_rfl) rfl (⟨⟨_, _, rfl, rfl, by decide⟩, ⟨⟨_, _, rfl, rfl, by decide⟩, trivial⟩⟩) rfl) (WL.v (run_buildS (pl := qp3) (out := qv2) underlying81 zeroValue81 (fun w => by kernel_rfl) rfl (⟨⟨_, _, rfl, rfl, by decide⟩, ⟨⟨_, _, rfl, rfl, by decide⟩, trivial⟩⟩) rfl) ?_))
 refine WL.v (run_buildS (pl := qp3) (out := qv2) underlying81 zeroValue81 (fun w => by kernel_rfl) rfl (⟨⟨_, _, rfl, rfl, by decide⟩, ⟨⟨_, _, rfl, rfl, by decide⟩, ⟨⟨_, _, rfl, rfl, by decide⟩, ⟨⟨_, _, rfl, rfl, by decide⟩, trivial⟩⟩⟩⟩) rfl) ?_
 refine WL.v (run_buildS (pl := qp3) (out := qv2) underlying81 zeroValue81 (fun w => by kernel_rfl) rfl (⟨⟨_, _, rfl, rfl, by decide⟩, ⟨⟨_, _, rfl, rfl, by decide⟩, ⟨⟨_, _, rfl, rfl, by decide⟩, ⟨⟨_, _, rfl, rfl, by decide⟩, ⟨⟨_, _, rfl, rfl, by decide⟩, trivial⟩⟩⟩⟩⟩) rfl) ?_
 refine WL.v (run_buildS (pl := qp3) (out := qv2) underlying81 zeroValue81 (fun w => by kernel_rfl) rfl (⟨⟨_, _, rfl, rfl, by decide⟩, ⟨⟨_, _, rfl, rfl, by decide⟩, ⟨⟨_, _, rfl, rfl, by decide⟩, ⟨⟨_, _, rfl, rfl, by decide⟩, trivial⟩⟩⟩⟩) rfl) ?_
 refine WL.v (run_buildS (pl := qp3) (out := qv2) underlying81 zeroValue81 (fun w => by kernel_rfl) rfl (⟨⟨_, _, rfl, rfl, by decide⟩, ⟨⟨_, _, rfl, rfl, by decide⟩, ⟨⟨_, _, rfl, rfl, by decide⟩, ⟨⟨_, _, rfl, rfl, by decide⟩, trivial⟩⟩⟩⟩) rfl) ?_
 refine WL.v (run_buildS (pl := qp3) (out := qv2) underlying81 zeroValue81 (fun w => by kernel_rfl) rfl (⟨⟨_, _, rfl, rfl, by decide⟩, ⟨⟨_, _, rfl, rfl, by decide⟩, ⟨⟨_, _, rfl, rfl, by decide⟩, ⟨⟨_, _, rfl, rfl, by decide⟩, ⟨⟨_, _, rfl, rfl, by decide⟩, trivial⟩⟩⟩⟩⟩) rfl) ?_
 refine WL.v (run_buildS (pl := qp3) (out := qv2) underlying81 zeroValue81 (fun w => by kernel_rfl) rfl (⟨⟨_, _, rfl, rfl, by decide⟩, ⟨⟨_, _, rfl, rfl, by decide⟩, ⟨⟨_, _, rfl, rfl, by decide⟩, ⟨⟨_, _, rfl, rfl, by decide⟩, trivial⟩⟩⟩⟩) rfl) ?_
 refine WL.v (run_buildS (pl := qp3) (out := qv2) underlying81 zeroValue81 (fun w => by kernel_rfl) rfl (⟨⟨_, _, rfl, rfl, by decide⟩, ⟨⟨_, _, rfl, rfl, by decide⟩, ⟨⟨_, _, rfl, rfl, by decide⟩, ⟨⟨_, _, rfl, rfl, by decide⟩, ⟨⟨_, _, rfl, rfl, by decide⟩, trivial⟩⟩⟩⟩⟩) rfl) ?_
 refine WL.v (run_buildS (pl := qp3) (out := qv2) underlying81 zeroValue81 (fun w => by kernel_rfl) rfl (⟨⟨_, _, rfl, rfl, by decide⟩, ⟨⟨_, _, rfl, rfl, by decide⟩, ⟨⟨_, _, rfl, rfl, by decide⟩, ⟨⟨_, _, rfl, rfl, by decide⟩, ⟨⟨_, _, rfl, rfl, by decide⟩, trivial⟩⟩⟩⟩⟩) rfl) ?_
 refine WL.v (run_buildS (pl := qp3) (out := qv2) underlying81 zeroValue81 (fun w => by kernel_rfl) rfl (⟨⟨_, _, rfl, rfl, by decide⟩, ⟨⟨_, _, rfl, rfl, by decide⟩, ⟨⟨_, _, rfl, rfl, by decide⟩, ⟨⟨_, _, rfl, rfl, by decide⟩, trivial⟩⟩⟩⟩) rfl) ?_
 refine WL.v (run_buildS (pl := qp3) (out := qv2) underlying81 zeroValue81 (fun w => by kernel_rfl) rfl (⟨⟨_, _, rfl, rfl, by decide⟩, ⟨⟨_, _, rfl, rfl, by decide⟩, ⟨⟨_, _, rfl, rfl, by decide⟩, ⟨⟨_, _, rfl, rfl, by decide⟩, ⟨⟨_, _, rfl, rfl, by decide⟩, trivial⟩⟩⟩⟩⟩) rfl) ?_
 refine WL.v (run_buildS (pl := qp3) (out := qv2) underlying81 zeroValue81 (fun w => by kernel_rfl) rfl (⟨⟨_, _, rfl, rfl, by decide⟩, ⟨⟨_, _, rfl, rfl, by decide⟩, ⟨⟨_, _, rfl, rfl, by decide⟩, ⟨⟨_, _, rfl, rfl, by decide⟩, trivial⟩⟩⟩⟩) rfl) ?_
 refine WL.v (run_buildS (pl := qp3) (out := qv2) underlying81 zeroValue81 (fun w => by kernel_rfl) rfl (⟨⟨_, _, rfl, rfl, by decide⟩, ⟨⟨_, _, rfl, rfl, by decide⟩, ⟨⟨_, _, rfl, rfl, by decide⟩, ⟨⟨_, _, rfl, rfl, by decide⟩, trivial⟩⟩⟩⟩) rfl) ?_
 refine WL.v (run_buildS (pl := qp3) (out := qv2) underlying81 zeroValue81 (fun w => by kernel_rfl) rfl (⟨⟨_, _, rfl, rfl, by decide⟩, ⟨⟨_, _, rfl, rfl, by decide⟩, ⟨⟨_, _, rfl, rfl, by decide⟩, ⟨⟨_, _, rfl, rfl, by decide⟩, trivial⟩⟩⟩⟩) rfl) ?_
 refine WL.e (eff_mkSlice (zl := (List.replicate 17 ([.int .i64 0, .int .u8 0, .int .u8 0, .bool false, .bool false, .bool false, .bool false, .bool false, .bool false] : List Value)).flatten) (vs := codesV) (out := codesL.flatMap Cd.cells) h underlying142 sizeOf81 zeroValue81 (by decide) (by kernel_rfl) rfl (by kernel_rfl) codesV_lt (⟨⟨_, _, rfl, rfl, by decide⟩, ⟨⟨_, _, rfl, rfl, by decide⟩, ⟨⟨_, _, rfl, rfl, by decide⟩, ⟨⟨_, _, rfl, rfl, by decide⟩, ⟨⟨_, _, rfl, rfl, by decide⟩, ⟨⟨_, _, rfl, rfl, by decide⟩, ⟨⟨_, _, rfl, rfl, by decide⟩, ⟨⟨_, _, rfl, rfl, by decide⟩, ⟨⟨_, _, rfl, rfl, by decide⟩, ⟨⟨_, _, rfl, rfl, by decide⟩, ⟨⟨_, _, rfl, rfl, by decide⟩, ⟨⟨_, _, rfl, rfl, by decide⟩, ⟨⟨_, _, rfl, rfl, by decide⟩, ⟨⟨_, _, rfl, rfl, by decide⟩, ⟨⟨_, _, rfl, rfl, by decide⟩, ⟨⟨_, _, rfl, rfl, by decide⟩, ⟨⟨_, _, rfl, rfl, by decide⟩, trivial⟩⟩⟩⟩⟩⟩⟩⟩⟩⟩⟩⟩⟩⟩⟩⟩⟩) (by kernel_rfl) (by kernel_rfl) (by simp [maxLen])) ?_
 rintro _ w ⟨bq, rfl, h⟩
 refine WL.z (W.ret (bodyQ.r1 (v := .slice _ _ _) results73 rfl ?_))
 exact ⟨_, rfl, h⟩
theorem gless_ok {a b : Nat} (ha : a < 4294967296) (hb : b < 4294967296) (h : On W0 L w) : Calls Tryz.prog 153 #[.int .u32 (a : Int), .int .u32 (b : Int)] w (Ret fun v w' => ∃ g : Int, GapIs a b g ∧ v = .bool (decide (0 < g)) ∧ On W0 L w') := by
 refine enter func153 rfl ntmps153 rfl (W.sr (WL.z (W.sr (WL.m ?_))))
 refine WL.m (WL.e (eff_call call99 (gap_ok ha hb h)) ?_)
 rintro _ w ⟨g, hg, hgb, rfl, h⟩
 refine WL.v (run_gtr rfl rfl) (WL.z (W.ret (bodyQ.r1 (v := .bool _) results153 rfl ?_)))
 exact ⟨g, hg, rfl, h⟩
theorem crun_ok {n : Int} (h : On W0 L w) : Calls Tryz.prog 53 #[.int .i64 n] w (Ret fun v w' => v = .int .i64 (runC n) ∧ On W0 L w') := by
 refine enter func53 rfl ntmps53 rfl (W.sr (WL.z (W.seq (W.sr ?_))))
 refine WL.m ?_
 refine WL.q (run_lss rfl rfl) (fun c4 => ?_) (fun c4 => ?_)
 ·
  refine WL.m (WL.s (WL.s (WL.pt (WL.nil (W.ct (W.sr ?_))))))
  refine WL.z (W.ret (bodyQ.r1 (v := .int .i64 _) results53 rfl ?_))
  have e : runC n = 0 := by unfold runC; rw [if_pos (by omega)]
  rw [e]
  exact ⟨rfl, h⟩
 refine WL.m (WL.m (WL.v (run_gtr rfl rfl) (WL.pf (WL.nil ?_))))
 refine W.condIf rfl (fun c2 => ?_) (fun c2 => ?_)
 ·
  refine W.sr (WL.z (W.ret (bodyQ.r1 (v := .int .i64 _) results53 rfl ?_)))
  have e : runC n = 0 := by unfold runC; rw [if_pos (by omega)]
  rw [e]
  exact ⟨rfl, h⟩
 refine W.skip (W.sr (WL.m (WL.v (run_mul rfl rfl (by omega) (by omega)) (WL.z (W.ret ?_)))))
 refine bodyQ.r1 (v := .int .i64 _) results53 rfl ?_
 have e : runC n = n * 8 := by unfold runC; rw [if_neg (by omega)]
 rw [e]
 exact ⟨rfl, h⟩
theorem cout_n_ok {kind at_ n key new typ : Int} {force : Bool} {data : List UInt8} {ax : Option Addr} {cx : Nat} (h : On W0 L w) : Calls Tryz.prog 16 #[.agg #[.int .i64 kind, .int .i64 at_, .int .i64 n, .slice ax data.length cx, .int .u64 key, .int .u64 new, .int .i64 typ, .bool force]] w (Ret fun v w' => v = .int .i64 (outN (⟨kind, at_, n, data, key, new, typ, force⟩ : Cm)) ∧ On W0 L w') := by
 refine enter func16 rfl ntmps16 rfl ?_
 have hrb : -1 ≤ runC n ∧ runC n ≤ 256 := by unfold runC; split <;> omega
 refine W.sr (WL.e (eff_box (v := .agg _) (l := [.int .i64 kind, .int .i64 at_, .int .i64 n, .slice ax data.length cx, .int .u64 key, .int .u64 new, .int .i64 typ, .bool force]) h rfl rfl) ?_)
 rintro _ w ⟨b1, rfl, h⟩
 refine WL.z (W.seq (W.sr (WL.c 0 underlying29 rfl sizeOf3 rfl isAgg3 h rfl (WL.nil ?_))))
 refine W.block (W.sr (WL.v (run_eql rfl rfl) (WL.z ?_)))
 refine W.condIf rfl (fun c4 => ?_) (fun c4 => ?_)
 ·
  refine W.sr (WL.c 2 underlying29 rfl sizeOf3 rfl isAgg3 h rfl (WL.e (eff_call call53 (crun_ok h)) ?_))
  rintro _ w ⟨rfl, h⟩
  refine WL.z (W.ret (bodyQ.r1 (v := .int .i64 _) results16 rfl ?_))
  have e : outN (⟨kind, at_, n, data, key, new, typ, force⟩ : Cm) = runC n := by unfold outN; rw [if_pos (by show kind = 3; omega)]
  rw [e]
  exact ⟨rfl, h.tail⟩
 refine W.sr (WL.v (run_eql rfl rfl) (WL.z ?_))
 refine W.condIf rfl (fun c8 => ?_) (fun c8 => ?_)
 ·
  refine W.sr (WL.c 2 underlying29 rfl sizeOf3 rfl isAgg3 h rfl (WL.e (eff_call call53 (crun_ok h)) ?_))
  rintro _ w ⟨rfl, h⟩
  refine WL.v (run_mul rfl rfl (by omega) (by omega)) (WL.z (W.ret (bodyQ.r1 (v := .int .i64 _) results16 rfl ?_)))
  have e : outN (⟨kind, at_, n, data, key, new, typ, force⟩ : Cm) = 2 * runC n := by unfold outN; rw [if_neg (by show ¬ kind = 3; omega), if_pos (by show kind = 6; omega)]
  rw [e]
  exact ⟨rfl, h.tail⟩
 refine W.seq (W.sr (WL.v (run_eql rfl rfl) (WL.z ?_)))
 refine W.condIf rfl (fun c12 => ?_) (fun c12 => ?_)
 ·
  refine W.skip ?_
  refine W.condIf rfl (fun c27 => ?_) (fun c27 => ?_)
  ·
   refine W.sr (WL.z (W.ret (bodyQ.r1 (v := .int .i64 _) results16 rfl ?_)))
   have e24 : (kind = 10 ∨ kind = 11 ∨ kind = 12 ∨ kind = 13 ∨ kind = 14 ∨ kind = 15) → outN (⟨kind, at_, n, data, key, new, typ, force⟩ : Cm) = 24 := fun q => by unfold outN; rw [if_neg (by show ¬ kind = 3; omega), if_neg (by show ¬ kind = 6; omega), if_pos q]
   have e0 : ¬ (kind = 10 ∨ kind = 11 ∨ kind = 12 ∨ kind = 13 ∨ kind = 14 ∨ kind = 15) → outN (⟨kind, at_, n, data, key, new, typ, force⟩ : Cm) = 0 := fun q => by unfold outN; rw [if_neg (by show ¬ kind = 3; omega), if_neg (by show ¬ kind = 6; omega), if_neg q]
   first | (exfalso; omega) | (have q24 := e24 (by omega); rw [q24]; exact ⟨rfl, h.tail⟩) | (have q0 := e0 (by omega); rw [q0]; exact ⟨rfl, h.tail⟩)
  refine W.skip (W.sr (WL.z (W.ret (bodyQ.r1 (v := .int .i64 _) results16 rfl ?_))))
  have e24 : (kind = 10 ∨ kind = 11 ∨ kind = 12 ∨ kind = 13 ∨ kind = 14 ∨ kind = 15) → outN (⟨kind, at_, n, data, key, new, typ, force⟩ : Cm) = 24 := fun q => by unfold outN; rw [if_neg (by show ¬ kind = 3; omega), if_neg (by show ¬ kind = 6; omega), if_pos q]
  have e0 : ¬ (kind = 10 ∨ kind = 11 ∨ kind = 12 ∨ kind = 13 ∨ kind = 14 ∨ kind = 15) → outN (⟨kind, at_, n, data, key, new, typ, force⟩ : Cm) = 0 := fun q => by unfold outN; rw [if_neg (by show ¬ kind = 3; omega), if_neg (by show ¬ kind = 6; omega), if_neg q]
  first | (exfalso; omega) | (have q24 := e24 (by omega); rw [q24]; exact ⟨rfl, h.tail⟩) | (have q0 := e0 (by omega); rw [q0]; exact ⟨rfl, h.tail⟩)
 refine W.sr (WL.v (run_eql rfl rfl) (WL.z ?_))
 refine W.condIf rfl (fun c15 => ?_) (fun c15 => ?_)
 ·
  refine W.skip ?_
  refine W.condIf rfl (fun c27 => ?_) (fun c27 => ?_)
  ·
   refine W.sr (WL.z (W.ret (bodyQ.r1 (v := .int .i64 _) results16 rfl ?_)))
   have e24 : (kind = 10 ∨ kind = 11 ∨ kind = 12 ∨ kind = 13 ∨ kind = 14 ∨ kind = 15) → outN (⟨kind, at_, n, data, key, new, typ, force⟩ : Cm) = 24 := fun q => by unfold outN; rw [if_neg (by show ¬ kind = 3; omega), if_neg (by show ¬ kind = 6; omega), if_pos q]
   have e0 : ¬ (kind = 10 ∨ kind = 11 ∨ kind = 12 ∨ kind = 13 ∨ kind = 14 ∨ kind = 15) → outN (⟨kind, at_, n, data, key, new, typ, force⟩ : Cm) = 0 := fun q => by unfold outN; rw [if_neg (by show ¬ kind = 3; omega), if_neg (by show ¬ kind = 6; omega), if_neg q]
   first | (exfalso; omega) | (have q24 := e24 (by omega); rw [q24]; exact ⟨rfl, h.tail⟩) | (have q0 := e0 (by omega); rw [q0]; exact ⟨rfl, h.tail⟩)
  refine W.skip (W.sr (WL.z (W.ret (bodyQ.r1 (v := .int .i64 _) results16 rfl ?_))))
  have e24 : (kind = 10 ∨ kind = 11 ∨ kind = 12 ∨ kind = 13 ∨ kind = 14 ∨ kind = 15) → outN (⟨kind, at_, n, data, key, new, typ, force⟩ : Cm) = 24 := fun q => by unfold outN; rw [if_neg (by show ¬ kind = 3; omega), if_neg (by show ¬ kind = 6; omega), if_pos q]
  have e0 : ¬ (kind = 10 ∨ kind = 11 ∨ kind = 12 ∨ kind = 13 ∨ kind = 14 ∨ kind = 15) → outN (⟨kind, at_, n, data, key, new, typ, force⟩ : Cm) = 0 := fun q => by unfold outN; rw [if_neg (by show ¬ kind = 3; omega), if_neg (by show ¬ kind = 6; omega), if_neg q]
  first | (exfalso; omega) | (have q24 := e24 (by omega); rw [q24]; exact ⟨rfl, h.tail⟩) | (have q0 := e0 (by omega); rw [q0]; exact ⟨rfl, h.tail⟩)
 refine W.sr (WL.v (run_eql rfl rfl) (WL.z ?_))
 refine W.condIf rfl (fun c18 => ?_) (fun c18 => ?_)
 ·
  refine W.skip ?_
  refine W.condIf rfl (fun c27 => ?_) (fun c27 => ?_)
  ·
   refine W.sr (WL.z (W.ret (bodyQ.r1 (v := .int .i64 _) results16 rfl ?_)))
   have e24 : (kind = 10 ∨ kind = 11 ∨ kind = 12 ∨ kind = 13 ∨ kind = 14 ∨ kind = 15) → outN (⟨kind, at_, n, data, key, new, typ, force⟩ : Cm) = 24 := fun q => by unfold outN; rw [if_neg (by show ¬ kind = 3; omega), if_neg (by show ¬ kind = 6; omega), if_pos q]
   have e0 : ¬ (kind = 10 ∨ kind = 11 ∨ kind = 12 ∨ kind = 13 ∨ kind = 14 ∨ kind = 15) → outN (⟨kind, at_, n, data, key, new, typ, force⟩ : Cm) = 0 := fun q => by unfold outN; rw [if_neg (by show ¬ kind = 3; omega), if_neg (by show ¬ kind = 6; omega), if_neg q]
   first | (exfalso; omega) | (have q24 := e24 (by omega); rw [q24]; exact ⟨rfl, h.tail⟩) | (have q0 := e0 (by omega); rw [q0]; exact ⟨rfl, h.tail⟩)
  refine W.skip (W.sr (WL.z (W.ret (bodyQ.r1 (v := .int .i64 _) results16 rfl ?_))))
  have e24 : (kind = 10 ∨ kind = 11 ∨ kind = 12 ∨ kind = 13 ∨ kind = 14 ∨ kind = 15) → outN (⟨kind, at_, n, data, key, new, typ, force⟩ : Cm) = 24 := fun q => by unfold outN; rw [if_neg (by show ¬ kind = 3; omega), if_neg (by show ¬ kind = 6; omega), if_pos q]
  have e0 : ¬ (kind = 10 ∨ kind = 11 ∨ kind = 12 ∨ kind = 13 ∨ kind = 14 ∨ kind = 15) → outN (⟨kind, at_, n, data, key, new, typ, force⟩ : Cm) = 0 := fun q => by unfold outN; rw [if_neg (by show ¬ kind = 3; omega), if_neg (by show ¬ kind = 6; omega), if_neg q]
  first | (exfalso; omega) | (have q24 := e24 (by omega); rw [q24]; exact ⟨rfl, h.tail⟩) | (have q0 := e0 (by omega); rw [q0]; exact ⟨rfl, h.tail⟩)
 refine W.sr (WL.v (run_eql rfl rfl) (WL.z ?_))
 refine W.condIf rfl (fun c21 => ?_) (fun c21 => ?_)
 ·
  refine W.skip ?_
  refine W.condIf rfl (fun c27 => ?_) (fun c27 => ?_)
  ·
   refine W.sr (WL.z (W.ret (bodyQ.r1 (v := .int .i64 _) results16 rfl ?_)))
   have e24 : (kind = 10 ∨ kind = 11 ∨ kind = 12 ∨ kind = 13 ∨ kind = 14 ∨ kind = 15) → outN (⟨kind, at_, n, data, key, new, typ, force⟩ : Cm) = 24 := fun q => by unfold outN; rw [if_neg (by show ¬ kind = 3; omega), if_neg (by show ¬ kind = 6; omega), if_pos q]
   have e0 : ¬ (kind = 10 ∨ kind = 11 ∨ kind = 12 ∨ kind = 13 ∨ kind = 14 ∨ kind = 15) → outN (⟨kind, at_, n, data, key, new, typ, force⟩ : Cm) = 0 := fun q => by unfold outN; rw [if_neg (by show ¬ kind = 3; omega), if_neg (by show ¬ kind = 6; omega), if_neg q]
   first | (exfalso; omega) | (have q24 := e24 (by omega); rw [q24]; exact ⟨rfl, h.tail⟩) | (have q0 := e0 (by omega); rw [q0]; exact ⟨rfl, h.tail⟩)
  refine W.skip (W.sr (WL.z (W.ret (bodyQ.r1 (v := .int .i64 _) results16 rfl ?_))))
  have e24 : (kind = 10 ∨ kind = 11 ∨ kind = 12 ∨ kind = 13 ∨ kind = 14 ∨ kind = 15) → outN (⟨kind, at_, n, data, key, new, typ, force⟩ : Cm) = 24 := fun q => by unfold outN; rw [if_neg (by show ¬ kind = 3; omega), if_neg (by show ¬ kind = 6; omega), if_pos q]
  have e0 : ¬ (kind = 10 ∨ kind = 11 ∨ kind = 12 ∨ kind = 13 ∨ kind = 14 ∨ kind = 15) → outN (⟨kind, at_, n, data, key, new, typ, force⟩ : Cm) = 0 := fun q => by unfold outN; rw [if_neg (by show ¬ kind = 3; omega), if_neg (by show ¬ kind = 6; omega), if_neg q]
  first | (exfalso; omega) | (have q24 := e24 (by omega); rw [q24]; exact ⟨rfl, h.tail⟩) | (have q0 := e0 (by omega); rw [q0]; exact ⟨rfl, h.tail⟩)
 refine W.sr (WL.v (run_eql rfl rfl) (WL.z ?_))
 refine W.condIf rfl (fun c24 => ?_) (fun c24 => ?_)
 ·
  refine W.skip ?_
  refine W.condIf rfl (fun c27 => ?_) (fun c27 => ?_)
  ·
   refine W.sr (WL.z (W.ret (bodyQ.r1 (v := .int .i64 _) results16 rfl ?_)))
   have e24 : (kind = 10 ∨ kind = 11 ∨ kind = 12 ∨ kind = 13 ∨ kind = 14 ∨ kind = 15) → outN (⟨kind, at_, n, data, key, new, typ, force⟩ : Cm) = 24 := fun q => by unfold outN; rw [if_neg (by show ¬ kind = 3; omega), if_neg (by show ¬ kind = 6; omega), if_pos q]
   have e0 : ¬ (kind = 10 ∨ kind = 11 ∨ kind = 12 ∨ kind = 13 ∨ kind = 14 ∨ kind = 15) → outN (⟨kind, at_, n, data, key, new, typ, force⟩ : Cm) = 0 := fun q => by unfold outN; rw [if_neg (by show ¬ kind = 3; omega), if_neg (by show ¬ kind = 6; omega), if_neg q]
   first | (exfalso; omega) | (have q24 := e24 (by omega); rw [q24]; exact ⟨rfl, h.tail⟩) | (have q0 := e0 (by omega); rw [q0]; exact ⟨rfl, h.tail⟩)
  refine W.skip (W.sr (WL.z (W.ret (bodyQ.r1 (v := .int .i64 _) results16 rfl ?_))))
  have e24 : (kind = 10 ∨ kind = 11 ∨ kind = 12 ∨ kind = 13 ∨ kind = 14 ∨ kind = 15) → outN (⟨kind, at_, n, data, key, new, typ, force⟩ : Cm) = 24 := fun q => by unfold outN; rw [if_neg (by show ¬ kind = 3; omega), if_neg (by show ¬ kind = 6; omega), if_pos q]
  have e0 : ¬ (kind = 10 ∨ kind = 11 ∨ kind = 12 ∨ kind = 13 ∨ kind = 14 ∨ kind = 15) → outN (⟨kind, at_, n, data, key, new, typ, force⟩ : Cm) = 0 := fun q => by unfold outN; rw [if_neg (by show ¬ kind = 3; omega), if_neg (by show ¬ kind = 6; omega), if_neg q]
  first | (exfalso; omega) | (have q24 := e24 (by omega); rw [q24]; exact ⟨rfl, h.tail⟩) | (have q0 := e0 (by omega); rw [q0]; exact ⟨rfl, h.tail⟩)
 refine W.region (WL.v (run_eql rfl rfl) (WL.z ?_))
 refine W.condIf rfl (fun c27 => ?_) (fun c27 => ?_)
 ·
  refine W.sr (WL.z (W.ret (bodyQ.r1 (v := .int .i64 _) results16 rfl ?_)))
  have e24 : (kind = 10 ∨ kind = 11 ∨ kind = 12 ∨ kind = 13 ∨ kind = 14 ∨ kind = 15) → outN (⟨kind, at_, n, data, key, new, typ, force⟩ : Cm) = 24 := fun q => by unfold outN; rw [if_neg (by show ¬ kind = 3; omega), if_neg (by show ¬ kind = 6; omega), if_pos q]
  have e0 : ¬ (kind = 10 ∨ kind = 11 ∨ kind = 12 ∨ kind = 13 ∨ kind = 14 ∨ kind = 15) → outN (⟨kind, at_, n, data, key, new, typ, force⟩ : Cm) = 0 := fun q => by unfold outN; rw [if_neg (by show ¬ kind = 3; omega), if_neg (by show ¬ kind = 6; omega), if_neg q]
  first | (exfalso; omega) | (have q24 := e24 (by omega); rw [q24]; exact ⟨rfl, h.tail⟩) | (have q0 := e0 (by omega); rw [q0]; exact ⟨rfl, h.tail⟩)
 refine W.skip (W.sr (WL.z (W.ret (bodyQ.r1 (v := .int .i64 _) results16 rfl ?_))))
 have e24 : (kind = 10 ∨ kind = 11 ∨ kind = 12 ∨ kind = 13 ∨ kind = 14 ∨ kind = 15) → outN (⟨kind, at_, n, data, key, new, typ, force⟩ : Cm) = 24 := fun q => by unfold outN; rw [if_neg (by show ¬ kind = 3; omega), if_neg (by show ¬ kind = 6; omega), if_pos q]
 have e0 : ¬ (kind = 10 ∨ kind = 11 ∨ kind = 12 ∨ kind = 13 ∨ kind = 14 ∨ kind = 15) → outN (⟨kind, at_, n, data, key, new, typ, force⟩ : Cm) = 0 := fun q => by unfold outN; rw [if_neg (by show ¬ kind = 3; omega), if_neg (by show ¬ kind = 6; omega), if_neg q]
 first | (exfalso; omega) | (have q24 := e24 (by omega); rw [q24]; exact ⟨rfl, h.tail⟩) | (have q0 := e0 (by omega); rw [q0]; exact ⟨rfl, h.tail⟩)
theorem find_none_of {p : Cd → Bool} (hno : ∀ j y, j < 17 → codesL[j]? = some y → p y = false) : codesL.find? p = none := by
 rw [List.find?_eq_none]
 intro y hy
 obtain ⟨j, hj⟩ := List.getElem?_of_mem hy
 have hl := (List.getElem?_eq_some_iff.1 hj).1
 have : p y = false := hno j y hl hj
 rw [this]; decide
theorem find_some_of {p : Cd → Bool} {l : List Cd} : ∀ {i : Nat} {x : Cd}, l[i]? = some x → p x = true → (∀ j y, j < i → l[j]? = some y → p y = false) → l.find? p = some x := by
 induction l with
 | nil => intro i x h; cases h
 | cons a l ih =>
   intro i x hx hp hno
   cases i with
   | zero => cases hx; rw [List.find?_cons_of_pos hp]
   | succ i =>
     have ha : p a = false := hno 0 a (by omega) rfl
     rw [List.find?_cons_of_neg (by rw [ha]; decide)]
     exact ih hx hp fun j y hj hy => hno (j + 1) y (by omega) hy
theorem cfind_ok {f : FuncId} {caps : Array Value} {p : Cd → Bool} (h : On W0 L w) (hf : ∀ args w, (callFunc f args).run Tryz.prog w = .ok (.enter f args) w) (hg : ∀ (x : Cd) (M : List HProp) (w : World), To M L → On W0 M w → Calls Tryz.prog f (#[.agg x.cells.toArray] ++ caps) w (Ret fun v w' => v = .bool (p x) ∧ On W0 M w')) : Calls Tryz.prog 36 #[.func (.func f) #[] caps] w (Ret fun v w' => ((∃ x, codesL.find? p = some x ∧ v = .tuple #[.agg x.cells.toArray, .bool true]) ∨ (codesL.find? p = none ∧ v = .tuple #[.agg (Cd.cells ⟨0, 0, 0, false, false, false, false, false, false⟩).toArray, .bool false])) ∧ On W0 L w') := by
 refine enter func36 rfl ntmps36 rfl (W.sr (WL.e (eff_alloc h zeroValue81 rfl) ?_))
 rintro _ w ⟨b2, rfl, h⟩
 have h : On W0 (blk b2 (Cd.cells ⟨0, 0, 0, false, false, false, false, false, false⟩) 81 :: L) w := h
 refine WL.z (W.scope (W.sr (WL.e (eff_alloc h zeroValue81 rfl) ?_)))
 rintro _ w ⟨b4, rfl, h⟩
 have h : On W0 (blk b4 (Cd.cells ⟨0, 0, 0, false, false, false, false, false, false⟩) 81 :: blk b2 (Cd.cells ⟨0, 0, 0, false, false, false, false, false, false⟩) 81 :: L) w := h
 refine WL.nil (W.sr (WL.z (W.seq (W.label ?_))))
 refine W.cut (fun env w => ∃ (j : Env) (x : Cd) (r : Bool), ((r = true ∧ codesL.find? p = some x) ∨ (r = false ∧ codesL.find? p = none ∧ x.cells = (Cd.cells ⟨0, 0, 0, false, false, false, false, false, false⟩))) ∧ env = mkE j [(2, .pointer (some ⟨b2, 0, none⟩)), (4, .pointer (some ⟨b4, 0, none⟩)), (5, .bool r)] ∧ On W0 (blk b4 x.cells 81 :: blk b2 (Cd.cells ⟨0, 0, 0, false, false, false, false, false, false⟩) 81 :: L) w) ?_ ?_
 ·
  refine W.sr (WL.e (eff_call call73 (codes_ok h)) ?_)
  rintro _ w ⟨bq, rfl, h⟩
  refine WL.v (run_lenSlice underlying142 rfl) (WL.m (WL.nil (W.block ?_)))
  refine W.loop (fun (i : Nat) env w => (i ≤ 17 ∧ ∀ j y, j < i → codesL[j]? = some y → p y = false) ∧ ∃ j, env = mkE j [(0, .func (.func f) #[] caps), (2, .pointer (some ⟨b2, 0, none⟩)), (4, .pointer (some ⟨b4, 0, none⟩)), (5, .bool false), (8, .slice (some ⟨bq, 0, none⟩) 17 17), (9, .int .i64 17), (10, .int .i64 (i : Int))] ∧ On W0 (Own 9 (.slice (some ⟨bq, 0, none⟩) 17 17) 17 (codesL.flatMap Cd.cells) :: blk b4 (Cd.cells ⟨0, 0, 0, false, false, false, false, false, false⟩) 81 :: blk b2 (Cd.cells ⟨0, 0, 0, false, false, false, false, false, false⟩) 81 :: L) w) (fun i => 17 - i) (0) ?_ ?_
  · exact ⟨⟨by decide, fun j y hj => absurd hj (by omega)⟩, _, mkE_of ⟨rfl, rfl, rfl, rfl, rfl, rfl, rfl, trivial⟩, h⟩
  clear h
  rintro i env w ⟨⟨hi, hno⟩, j, rfl, h⟩
  refine W.sr (WL.v (run_lss rfl rfl) (WL.nil (W.seq ?_)))
  refine W.condIf rfl (fun c9 => ?_) (fun c9 => ?_)
  ·
   refine W.skip (W.seq ?_)
   have hi17 : i < 17 := by omega
   have ob_ : ∃ x, codesL[i]? = some x := ⟨codesL[i]'hi17, List.getElem?_eq_getElem _⟩
   obtain ⟨x, hx⟩ := ob_
   refine W.block (W.sr (WL.v (run_indexAddr underlying142 sizeOf81 rfl rfl (by omega) (by omega)) (WL.v (run_loadN isAgg81 sizeOf81 rfl rfl ((h.cellsO (v := .slice (some ⟨bq, 0, none⟩) 17 17)).elem (i := i) (vs := x.cells) hi17 (drop_flatMap Cd.cells 9 Cd.cells_length codesL _ _ hx))) (WL.e (eff_alloc h zeroValue81 rfl) ?_))))
   rintro _ w ⟨b7, rfl, h⟩
   refine WL.e (eff_storeW (vs := x.cells) h sizeOf81 rfl rfl rfl rfl rfl) ?_
   rintro _ w h
   refine WL.nil (W.sr (WL.m (WL.v (run_loadB (vs := x.cells) h isAgg81 sizeOf81 rfl rfl rfl) (WL.e (eff_callV (xs := [_]) rfl hf (hg x _ _ inferInstance h)) ?_))))
   rintro _ w ⟨rfl, h⟩
   refine WL.nil ?_
   refine W.condB rfl (fun c15 => ?_) (fun c15 => ?_)
   ·
    refine W.sr (WL.v (run_loadB (vs := x.cells) h isAgg81 sizeOf81 rfl rfl rfl) (WL.e (eff_storeW (vs := x.cells) h sizeOf81 rfl rfl rfl rfl rfl) ?_))
    rintro _ w h
    refine WL.z (W.exit ?_)
    exact ⟨_, x, true, .inl ⟨rfl, find_some_of hx c15 hno⟩, mkE_of ⟨rfl, rfl, rfl, trivial⟩, h.to⟩
   refine W.skip (W.region (WL.v (run_incN rfl rfl (by omega)) (WL.m (WL.nil ?_))))
   exact ⟨i + 1, ⟨⟨by omega, fun j y hj hy => by
     by_cases hji : j = i
     · subst hji; rw [hx] at hy; cases hy; exact c15
     exact hno j y (by omega) hy⟩, _, mkE_of ⟨rfl, rfl, rfl, rfl, rfl, rfl, rfl, trivial⟩, h.to⟩, by show 17 - (i + 1) < 17 - i; omega⟩
  refine W.exit ?_
  have ob_ : i = 17 := by omega
  obtain rfl := ob_
  exact ⟨_, ⟨0, 0, 0, false, false, false, false, false, false⟩, false, .inr ⟨rfl, find_none_of hno, rfl⟩, mkE_of ⟨rfl, rfl, rfl, trivial⟩, h.to⟩
 clear h
 rintro env w ⟨j, x, r, hcs, rfl, h⟩
 refine W.sr (WL.v (run_loadB (vs := x.cells) h isAgg81 sizeOf81 rfl rfl rfl) (WL.m (WL.e (eff_storeW (vs := x.cells) h sizeOf81 rfl rfl rfl rfl rfl) ?_)))
 rintro _ w h
 refine WL.z (W.ret (bodyQ.rctB (vs := x.cells) (v2 := .bool r) h results36 isAgg81 sizeOf81 rfl rfl rfl rfl ?_))
 rcases hcs with ⟨hr, hfd⟩ | ⟨hr, hfd, hz⟩
 · subst hr; exact ⟨.inl ⟨x, hfd, rfl⟩, h.to⟩
 subst hr; rw [hz]; exact ⟨.inr ⟨hfd, rfl⟩, h.to⟩
theorem splice_app {A Z Y : List UInt8} {lo k m : Nat} (hA : A.length = lo) (hY : Y.length = k) (hk : k ≤ m) : splice (bytesV (A ++ Z)) (lo * 1) ((bytesV Y).take (min k m * 1)) = bytesV (A ++ (Y ++ Z.drop k)) := by
 have h1 : (bytesV Y).take (min k m * 1) = bytesV Y := List.take_of_length_le (by rw [bytesV, List.length_map]; omega)
 have hAl : (bytesV A).length = lo := by rw [bytesV, List.length_map, hA]
 have hYl : (bytesV Y).length = k := by rw [bytesV, List.length_map, hY]
 have e1 : bytesV (A ++ Z) = bytesV A ++ bytesV Z := by simp [bytesV]
 have e2 : bytesV (A ++ (Y ++ Z.drop k)) = bytesV A ++ (bytesV Y ++ (bytesV Z).drop k) := by simp [bytesV, List.map_drop]
 rw [h1, e1, e2, Nat.mul_one]
 unfold splice
 rw [hYl, List.take_append_of_le_length (by omega), List.take_of_length_le (by omega), List.append_assoc]
 congr 2
 rw [List.drop_append, List.drop_of_length_le (by omega), List.nil_append, hAl]
 congr 1
 omega
theorem enc1_ok {M : List HProp} {b1 e : Nat} {kind : Int} {cs : List Value} {fr : Nat × Nat} {x : Cd} [i : HasBlk L b1 (.int .i64 kind :: cs) e fr] [tm : To M L] (h : On W0 M w) : Calls Tryz.prog 37 #[.agg x.cells.toArray, .pointer (some ⟨b1, 0, none⟩)] w (Ret fun v w' => v = .bool (decide (x.kind = kind)) ∧ On W0 M w') := by
 refine enter func37 rfl ntmps37 rfl (W.sr (WL.e (eff_box (v := .agg x.cells.toArray) (l := x.cells) h rfl rfl) ?_))
 rintro _ w ⟨b2, rfl, h⟩
 refine WL.z (W.sr (WL.c 0 underlying81 rfl sizeOf3 rfl isAgg3 h rfl (WL.f 0 underlying29 rfl sizeOf3 rfl rfl (WL.l isAgg3 rfl ((h.tail.to : On W0 L _).cellB rfl) ?_))))
 refine WL.v (run_eql rfl rfl) (WL.z (W.ret (bodyQ.r1 (v := .bool _) results37 rfl ?_)))
 exact ⟨rfl, h.tail⟩
theorem enc_2_ok {at_ n : Nat} {key new : Int} {typ : Nat} {data : List UInt8} {ax : Option Addr} {cx : Nat} (hat : at_ ≤ 4611686018427387904) (hn : n ≤ 4294967295) (htyp : typ ≤ 15) (h : On W0 L w) : Calls Tryz.prog 8 #[.agg #[.int .i64 2, .int .i64 (at_ : Int), .int .i64 (n : Int), .slice ax data.length cx, .int .u64 key, .int .u64 new, .int .i64 (typ : Int), .bool false]] w (Ret fun v w' => ∃ a, v = .tuple #[.slice a 16 16, .int .i64 0] ∧ On W0 (Own 1 (.slice a 16 16) 16 (bytesV (([136, 0] ++ be at_ 8) ++ (be n 4 ++ [0, 0]))) :: L) w') := by
 refine enter func8 rfl ntmps8 rfl ?_
 have hmx := maxLen_eq
 refine W.sr (WL.e (eff_box (v := .agg _) (l := [.int .i64 2, .int .i64 (at_ : Int), .int .i64 (n : Int), .slice ax data.length cx, .int .u64 key, .int .u64 new, .int .i64 (typ : Int), .bool false]) h rfl rfl) ?_)
 rintro _ w ⟨b1, rfl, h⟩
 refine WL.a (WL.z (W.sr (WL.v run_makeFunc (WL.e (eff_call call36 (cfind_ok (f := 37) (caps := #[.pointer (some ⟨b1, 0, none⟩)]) (p := fun x => decide (x.kind = 2)) h call37 (fun x M w tm h => enc1_ok (L := blk b1 [.int .i64 2, .int .i64 (at_ : Int), .int .i64 (n : Int), .slice ax data.length cx, .int .u64 key, .int .u64 new, .int .i64 (typ : Int), .bool false] 29 :: L) (tm := tm) h))) ?_))))
 rintro _ w ⟨hv, h⟩
 have hfd : codesL.find? (fun x => decide (x.kind = 2)) = some (⟨2, 136, 0, true, true, false, false, false, false⟩ : Cd) := rfl
 rcases hv with ⟨x, hx, rfl⟩ | ⟨hx, rfl⟩
 rotate_left
 · rw [hfd] at hx; cases hx
 have hx2 := Option.some.inj (hx.symm.trans hfd)
 subst hx2
 refine WL.m (WL.v (run_extract rfl rfl) (WL.v (run_extract rfl rfl) (WL.e (eff_alloc h zeroValue81 rfl) ?_)))
 rintro _ w ⟨b4, rfl, h⟩
 refine WL.e (eff_storeW (vs := [.int .i64 2, .int .u8 136, .int .u8 0, .bool true, .bool true, .bool false, .bool false, .bool false, .bool false]) h sizeOf81 rfl rfl rfl rfl rfl) ?_
 rintro _ w h
 refine WL.z (W.seq (W.block (W.seq (W.sr (WL.m ?_)))))
 refine WL.v (run_not rfl) (WL.z (W.cf (W.sr (WL.c 3 underlying81 rfl sizeOf4 rfl isAgg4 h rfl ?_))))
 refine WL.m (WL.c 1 underlying29 rfl sizeOf3 rfl isAgg3 h rfl (WL.v (run_lssF rfl rfl (by omega)) (WL.m (WL.c 2 underlying29 rfl sizeOf3 rfl isAgg3 h rfl (WL.v (run_lssF rfl rfl (by omega)) ?_)))))
 refine WL.pf (WL.pt (WL.z (W.cf (W.sr (WL.f 4 underlying81 rfl sizeOf4 rfl rfl ?_)))))
 refine WL.l isAgg4 rfl (h.cellB rfl) (WL.m (WL.c 2 underlying29 rfl sizeOf3 rfl isAgg3 h rfl (WL.v (run_gtrF rfl rfl (by omega)) (WL.pt (WL.z ?_)))))
 refine W.cf (W.sr (WL.c 5 underlying81 rfl sizeOf4 rfl isAgg4 h rfl (WL.m (WL.s (WL.s ?_)))))
 refine WL.s (WL.pf (WL.z (W.cf (W.region (WL.c 7 underlying81 rfl sizeOf4 rfl isAgg4 h rfl ?_)))))
 refine WL.m (WL.s (WL.s (WL.s (WL.s (WL.s (WL.s (WL.s ?_)))))))
 refine WL.s (WL.pf (WL.z (W.cs (W.sr ?_))))
 refine WL.e (eff_make (n := 16) (bytes := 1) h (rfl) (rfl) underlying26 rfl rfl rfl rfl rfl (by omega) (by omega)) ?_
 rintro _ w ⟨b53, rfl, h⟩
 refine WL.z (W.seq ?_)
 refine W.draw Tryz.follows h (fun w h => ?_)
 refine WT.m 0 rfl (WT.m 1 rfl (WT.f 2 1 rfl underlying81 rfl sizeOf5 rfl rfl (WT.l 3 rfl isAgg5 rfl (h.cellB rfl) (WT.f 4 2 rfl underlying81 rfl sizeOf5 rfl rfl (WT.l 5 rfl isAgg5 rfl (h.cellB rfl) (WT.p 6 rfl (fun w' => (run_indexAddr underlying26 sizeOf5 rfl rfl (by omega) (by omega))) (WT.e 7 [true, false] rfl (eff_storeOwn (v := .int .u8 136) (k := 0) h sizeOf5 rfl rfl rfl (by decide)) ?_)))))))
 rintro _ w h
 refine ⟨⟨h.cellB rfl, trivial⟩, ?_⟩
 refine WT.p 8 rfl (fun w' => (run_indexAddr underlying26 sizeOf5 rfl rfl (by omega) (by omega))) (WT.e 9 [false] rfl (eff_storeOwn (v := .int .u8 0) (k := 1) h sizeOf5 rfl rfl rfl (by decide)) ?_)
 rintro _ w h
 have h : On W0 (Own 1 (.slice (some ⟨b53, 0, none⟩) 16 16) 16 (bytesV ([136, 0] ++ [0, 0, 0, 0, 0, 0, 0, 0, 0, 0, 0, 0, 0, 0])) :: _) w := h
 refine ⟨trivial, ?_⟩
 refine WT.dn (W.seq (W.sr (WL.c 6 underlying81 rfl sizeOf4 rfl isAgg4 h rfl (WL.m (WL.s ?_)))))
 refine WL.s (WL.pf (WL.nil (W.cs (W.seq (W.sr ?_)))))
 refine WL.c 7 underlying81 rfl sizeOf4 rfl isAgg4 h rfl (WL.nil (W.cs (W.seq (W.sr ?_))))
 refine WL.c 3 underlying81 rfl sizeOf4 rfl isAgg4 h rfl (WL.nil (W.ct ?_))
 refine W.draw Tryz.follows h (fun w h => ?_)
 refine WT.m 0 rfl (WT.p 1 rfl (fun w' => (run_cutLV (n := 16) (l := 2) underlying26 sizeOf5 rfl rfl (by decide) (sliced_add (by decide)))) (WT.f 2 1 rfl underlying29 rfl sizeOf3 rfl rfl (WT.l 3 rfl isAgg3 rfl (h.cellB rfl) (WT.p 4 rfl (fun w' => (run_convIn underlying3 underlying27 rfl (by show (0 : Int) ≤ _; omega) (by show _ ≤ (18446744073709551615 : Int); omega))) (WT.e 5 [false] rfl (eff_call call38 (bput_ok (ax := none) (cx := 0) (bs := []) (v := at_) (n := 8) h Gives.nilB (by decide) (by decide) (by omega) (by decide))) ?_)))))
 rintro _ w ⟨a84, hv, h⟩
 rw [List.nil_append, be_length] at hv
 rw [List.nil_append] at h
 have h : On W0 (Own 1 (.slice a84 (be at_ 8).length (be at_ 8).length) (be at_ 8).length (bytesV (be at_ 8)) :: _) w := h
 rw [be_length] at h
 subst hv
 refine ⟨trivial, ?_⟩
 refine WT.e 6 [] rfl (eff_copyPart (size := 1) (lo := 2) (m := 14) (k := 8) (h.own (.slice (some ⟨b53, 0, none⟩) 16 16)) rfl rfl (h.cellsO (v := .slice a84 8 8)) rfl underlying26 sizeOf5 (by decide) (fun u hu => bytes_one u (List.mem_of_mem_take hu))) ?_
 rintro _ w ⟨rfl, h⟩
 have hsp := splice_app (A := [136, 0]) (Z := [0, 0, 0, 0, 0, 0, 0, 0, 0, 0, 0, 0, 0, 0]) (Y := be at_ 8) (lo := 2) (k := 8) (m := 14) rfl (be_length _ _) (by decide)
 rw [hsp] at h
 have h : On W0 (Own 1 (.slice (some ⟨b53, 0, none⟩) 16 16) 16 (bytesV ([136, 0] ++ (be at_ 8 ++ [0, 0, 0, 0, 0, 0]))) :: _) w := h
 refine ⟨trivial, ?_⟩
 refine WT.dn (W.seq (W.block (W.sr (WL.c 4 underlying81 rfl sizeOf4 rfl isAgg4 h rfl (WL.a ?_)))))
 refine WL.nil (W.ct ?_)
 refine W.draw Tryz.follows h (fun w h => ?_)
 refine WT.m 0 rfl (WT.p 1 rfl (fun w' => (run_cutLV (n := 16) (l := 10) underlying26 sizeOf5 rfl rfl (by decide) (sliced_add (by decide)))) (WT.f 2 2 rfl underlying29 rfl sizeOf3 rfl rfl (WT.l 3 rfl isAgg3 rfl (h.cellB rfl) (WT.p 4 rfl (fun w' => (run_convIn underlying3 underlying27 rfl (by show (0 : Int) ≤ _; omega) (by show _ ≤ (18446744073709551615 : Int); omega))) (WT.e 5 [false] rfl (eff_call call38 (bput_ok (ax := none) (cx := 0) (bs := []) (v := n) (n := 4) h Gives.nilB (by decide) (by decide) (by omega) (by decide))) ?_)))))
 rintro _ w ⟨a94, hv, h⟩
 rw [List.nil_append, be_length] at hv
 rw [List.nil_append] at h
 have h : On W0 (Own 1 (.slice a94 (be n 4).length (be n 4).length) (be n 4).length (bytesV (be n 4)) :: _) w := h
 rw [be_length] at h
 subst hv
 refine ⟨trivial, ?_⟩
 refine WT.e 6 [] rfl (eff_copyPart (size := 1) (lo := 10) (m := 6) (k := 4) (h.own (.slice (some ⟨b53, 0, none⟩) 16 16)) rfl rfl (h.cellsO (v := .slice a94 4 4)) rfl underlying26 sizeOf5 (by decide) (fun u hu => bytes_one u (List.mem_of_mem_take hu))) ?_
 rintro _ w ⟨rfl, h⟩
 have h : On W0 (Own 1 _ 16 (splice (bytesV (([136, 0] ++ be at_ 8) ++ [0, 0, 0, 0, 0, 0])) (10 * 1) ((bytesV (be n 4)).take (min 4 6 * 1))) :: _) w := h
 rw [splice_app (by rw [List.length_append, be_length]; rfl) (be_length _ _) (by decide)] at h
 have h : On W0 (Own 1 (.slice (some ⟨b53, 0, none⟩) 16 16) 16 (bytesV (([136, 0] ++ be at_ 8) ++ (be n 4 ++ [0, 0]))) :: _) w := h
 refine ⟨trivial, ?_⟩
 refine WT.dn (W.sr (WL.m (WL.a (WL.z (W.ret ?_)))))
 refine bodyQ.r2 (v1 := .slice _ _ _) (v2 := .int .i64 _) results8 rfl rfl ?_
 have h : On W0 (Own 1 (.slice (some ⟨b53, 0, none⟩) 16 16) 16 (bytesV (([136, 0] ++ be at_ 8) ++ (be n 4 ++ [0, 0]))) :: _) w := h
 exact ⟨_, rfl, h.to⟩
theorem enc_3_ok {at_ n : Nat} {key new : Int} {typ : Nat} {data : List UInt8} {ax : Option Addr} {cx : Nat} (hat : at_ ≤ 4611686018427387904) (hn : n ≤ 4294967295) (htyp : typ ≤ 15) (h : On W0 L w) : Calls Tryz.prog 8 #[.agg #[.int .i64 3, .int .i64 (at_ : Int), .int .i64 (n : Int), .slice ax data.length cx, .int .u64 key, .int .u64 new, .int .i64 (typ : Int), .bool false]] w (Ret fun v w' => ∃ a, v = .tuple #[.slice a 16 16, .int .i64 0] ∧ On W0 (Own 1 (.slice a 16 16) 16 (bytesV (([138, 0] ++ be at_ 8) ++ (be n 4 ++ [0, 0]))) :: L) w') := by
 refine enter func8 rfl ntmps8 rfl ?_
 have hmx := maxLen_eq
 refine W.sr (WL.e (eff_box (v := .agg _) (l := [.int .i64 3, .int .i64 (at_ : Int), .int .i64 (n : Int), .slice ax data.length cx, .int .u64 key, .int .u64 new, .int .i64 (typ : Int), .bool false]) h rfl rfl) ?_)
 rintro _ w ⟨b1, rfl, h⟩
 refine WL.a (WL.z (W.sr (WL.v run_makeFunc (WL.e (eff_call call36 (cfind_ok (f := 37) (caps := #[.pointer (some ⟨b1, 0, none⟩)]) (p := fun x => decide (x.kind = 3)) h call37 (fun x M w tm h => enc1_ok (L := blk b1 [.int .i64 3, .int .i64 (at_ : Int), .int .i64 (n : Int), .slice ax data.length cx, .int .u64 key, .int .u64 new, .int .i64 (typ : Int), .bool false] 29 :: L) (tm := tm) h))) ?_))))
 rintro _ w ⟨hv, h⟩
 have hfd : codesL.find? (fun x => decide (x.kind = 3)) = some (⟨3, 138, 0, true, true, false, true, false, false⟩ : Cd) := rfl
 rcases hv with ⟨x, hx, rfl⟩ | ⟨hx, rfl⟩
 rotate_left
 · rw [hfd] at hx; cases hx
 have hx2 := Option.some.inj (hx.symm.trans hfd)
 subst hx2
 refine WL.m (WL.v (run_extract rfl rfl) (WL.v (run_extract rfl rfl) (WL.e (eff_alloc h zeroValue81 rfl) ?_)))
 rintro _ w ⟨b4, rfl, h⟩
 refine WL.e (eff_storeW (vs := [.int .i64 3, .int .u8 138, .int .u8 0, .bool true, .bool true, .bool false, .bool true, .bool false, .bool false]) h sizeOf81 rfl rfl rfl rfl rfl) ?_
 rintro _ w h
 refine WL.z (W.seq (W.block (W.seq (W.sr (WL.m ?_)))))
 refine WL.v (run_not rfl) (WL.z (W.cf (W.sr (WL.c 3 underlying81 rfl sizeOf4 rfl isAgg4 h rfl ?_))))
 refine WL.m (WL.c 1 underlying29 rfl sizeOf3 rfl isAgg3 h rfl (WL.v (run_lssF rfl rfl (by omega)) (WL.m (WL.c 2 underlying29 rfl sizeOf3 rfl isAgg3 h rfl (WL.v (run_lssF rfl rfl (by omega)) ?_)))))
 refine WL.pf (WL.pt (WL.z (W.cf (W.sr (WL.f 4 underlying81 rfl sizeOf4 rfl rfl ?_)))))
 refine WL.l isAgg4 rfl (h.cellB rfl) (WL.m (WL.c 2 underlying29 rfl sizeOf3 rfl isAgg3 h rfl (WL.v (run_gtrF rfl rfl (by omega)) (WL.pt (WL.z ?_)))))
 refine W.cf (W.sr (WL.c 5 underlying81 rfl sizeOf4 rfl isAgg4 h rfl (WL.m (WL.s (WL.s ?_)))))
 refine WL.s (WL.pf (WL.z (W.cf (W.region (WL.c 7 underlying81 rfl sizeOf4 rfl isAgg4 h rfl ?_)))))
 refine WL.m (WL.s (WL.s (WL.s (WL.s (WL.s (WL.s (WL.s ?_)))))))
 refine WL.s (WL.pf (WL.z (W.cs (W.sr ?_))))
 refine WL.e (eff_make (n := 16) (bytes := 1) h (rfl) (rfl) underlying26 rfl rfl rfl rfl rfl (by omega) (by omega)) ?_
 rintro _ w ⟨b53, rfl, h⟩
 refine WL.z (W.seq ?_)
 refine W.draw Tryz.follows h (fun w h => ?_)
 refine WT.m 0 rfl (WT.m 1 rfl (WT.f 2 1 rfl underlying81 rfl sizeOf5 rfl rfl (WT.l 3 rfl isAgg5 rfl (h.cellB rfl) (WT.f 4 2 rfl underlying81 rfl sizeOf5 rfl rfl (WT.l 5 rfl isAgg5 rfl (h.cellB rfl) (WT.p 6 rfl (fun w' => (run_indexAddr underlying26 sizeOf5 rfl rfl (by omega) (by omega))) (WT.e 7 [true, false] rfl (eff_storeOwn (v := .int .u8 138) (k := 0) h sizeOf5 rfl rfl rfl (by decide)) ?_)))))))
 rintro _ w h
 refine ⟨⟨h.cellB rfl, trivial⟩, ?_⟩
 refine WT.p 8 rfl (fun w' => (run_indexAddr underlying26 sizeOf5 rfl rfl (by omega) (by omega))) (WT.e 9 [false] rfl (eff_storeOwn (v := .int .u8 0) (k := 1) h sizeOf5 rfl rfl rfl (by decide)) ?_)
 rintro _ w h
 have h : On W0 (Own 1 (.slice (some ⟨b53, 0, none⟩) 16 16) 16 (bytesV ([138, 0] ++ [0, 0, 0, 0, 0, 0, 0, 0, 0, 0, 0, 0, 0, 0])) :: _) w := h
 refine ⟨trivial, ?_⟩
 refine WT.dn (W.seq (W.sr (WL.c 6 underlying81 rfl sizeOf4 rfl isAgg4 h rfl (WL.m (WL.f 7 underlying29 rfl sizeOf4 rfl rfl ?_)))))
 refine WL.l isAgg4 rfl (h.cellB rfl) (WL.pt (WL.nil (W.cs (W.seq (W.sr ?_)))))
 refine WL.c 7 underlying81 rfl sizeOf4 rfl isAgg4 h rfl (WL.nil (W.cs (W.seq (W.sr ?_))))
 refine WL.c 3 underlying81 rfl sizeOf4 rfl isAgg4 h rfl (WL.nil (W.ct ?_))
 refine W.draw Tryz.follows h (fun w h => ?_)
 refine WT.m 0 rfl (WT.p 1 rfl (fun w' => (run_cutLV (n := 16) (l := 2) underlying26 sizeOf5 rfl rfl (by decide) (sliced_add (by decide)))) (WT.f 2 1 rfl underlying29 rfl sizeOf3 rfl rfl (WT.l 3 rfl isAgg3 rfl (h.cellB rfl) (WT.p 4 rfl (fun w' => (run_convIn underlying3 underlying27 rfl (by show (0 : Int) ≤ _; omega) (by show _ ≤ (18446744073709551615 : Int); omega))) (WT.e 5 [false] rfl (eff_call call38 (bput_ok (ax := none) (cx := 0) (bs := []) (v := at_) (n := 8) h Gives.nilB (by decide) (by decide) (by omega) (by decide))) ?_)))))
 rintro _ w ⟨a84, hv, h⟩
 rw [List.nil_append, be_length] at hv
 rw [List.nil_append] at h
 have h : On W0 (Own 1 (.slice a84 (be at_ 8).length (be at_ 8).length) (be at_ 8).length (bytesV (be at_ 8)) :: _) w := h
 rw [be_length] at h
 subst hv
 refine ⟨trivial, ?_⟩
 refine WT.e 6 [] rfl (eff_copyPart (size := 1) (lo := 2) (m := 14) (k := 8) (h.own (.slice (some ⟨b53, 0, none⟩) 16 16)) rfl rfl (h.cellsO (v := .slice a84 8 8)) rfl underlying26 sizeOf5 (by decide) (fun u hu => bytes_one u (List.mem_of_mem_take hu))) ?_
 rintro _ w ⟨rfl, h⟩
 have hsp := splice_app (A := [138, 0]) (Z := [0, 0, 0, 0, 0, 0, 0, 0, 0, 0, 0, 0, 0, 0]) (Y := be at_ 8) (lo := 2) (k := 8) (m := 14) rfl (be_length _ _) (by decide)
 rw [hsp] at h
 have h : On W0 (Own 1 (.slice (some ⟨b53, 0, none⟩) 16 16) 16 (bytesV ([138, 0] ++ (be at_ 8 ++ [0, 0, 0, 0, 0, 0]))) :: _) w := h
 refine ⟨trivial, ?_⟩
 refine WT.dn (W.seq (W.block (W.sr (WL.c 4 underlying81 rfl sizeOf4 rfl isAgg4 h rfl (WL.a ?_)))))
 refine WL.nil (W.ct ?_)
 refine W.draw Tryz.follows h (fun w h => ?_)
 refine WT.m 0 rfl (WT.p 1 rfl (fun w' => (run_cutLV (n := 16) (l := 10) underlying26 sizeOf5 rfl rfl (by decide) (sliced_add (by decide)))) (WT.f 2 2 rfl underlying29 rfl sizeOf3 rfl rfl (WT.l 3 rfl isAgg3 rfl (h.cellB rfl) (WT.p 4 rfl (fun w' => (run_convIn underlying3 underlying27 rfl (by show (0 : Int) ≤ _; omega) (by show _ ≤ (18446744073709551615 : Int); omega))) (WT.e 5 [false] rfl (eff_call call38 (bput_ok (ax := none) (cx := 0) (bs := []) (v := n) (n := 4) h Gives.nilB (by decide) (by decide) (by omega) (by decide))) ?_)))))
 rintro _ w ⟨a94, hv, h⟩
 rw [List.nil_append, be_length] at hv
 rw [List.nil_append] at h
 have h : On W0 (Own 1 (.slice a94 (be n 4).length (be n 4).length) (be n 4).length (bytesV (be n 4)) :: _) w := h
 rw [be_length] at h
 subst hv
 refine ⟨trivial, ?_⟩
 refine WT.e 6 [] rfl (eff_copyPart (size := 1) (lo := 10) (m := 6) (k := 4) (h.own (.slice (some ⟨b53, 0, none⟩) 16 16)) rfl rfl (h.cellsO (v := .slice a94 4 4)) rfl underlying26 sizeOf5 (by decide) (fun u hu => bytes_one u (List.mem_of_mem_take hu))) ?_
 rintro _ w ⟨rfl, h⟩
 have h : On W0 (Own 1 _ 16 (splice (bytesV (([138, 0] ++ be at_ 8) ++ [0, 0, 0, 0, 0, 0])) (10 * 1) ((bytesV (be n 4)).take (min 4 6 * 1))) :: _) w := h
 rw [splice_app (by rw [List.length_append, be_length]; rfl) (be_length _ _) (by decide)] at h
 have h : On W0 (Own 1 (.slice (some ⟨b53, 0, none⟩) 16 16) 16 (bytesV (([138, 0] ++ be at_ 8) ++ (be n 4 ++ [0, 0]))) :: _) w := h
 refine ⟨trivial, ?_⟩
 refine WT.dn (W.sr (WL.m (WL.a (WL.z (W.ret ?_)))))
 refine bodyQ.r2 (v1 := .slice _ _ _) (v2 := .int .i64 _) results8 rfl rfl ?_
 have h : On W0 (Own 1 (.slice (some ⟨b53, 0, none⟩) 16 16) 16 (bytesV (([138, 0] ++ be at_ 8) ++ (be n 4 ++ [0, 0]))) :: _) w := h
 exact ⟨_, rfl, h.to⟩
end Go.Proofs.YtjfmjbmkkpkppaaGreatDoor
