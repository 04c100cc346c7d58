/-
  Texts of a proof as one.
-/
import Derived.Test.YtjfmjbmkkpkppaaGreatDoorTopStreamsFQ3
import Derived.Shelf.Small.Strs
import Derived.Shelf.Small.Wraps
import Derived.Shelf.Strconv.Itoa0
import Derived.Shelf.Strconv.Itoa1
import Derived.Shelf.LaysM
import Derived.Shelf.Strconv.Itoa2
import Derived.Shelf.Strconv.Itoa3
import Derived.Shelf.Strconv.ParseIntEmpty
import Derived.Shelf.Strconv.Clone
import Derived.Shelf.Strconv.SyntaxError
import Derived.Shelf.LaysC
import Derived.Shelf.Strconv.ToError
import Derived.Shelf.Strconv.Lower
import Derived.Shelf.Strconv.ParseUint10
import Derived.Shelf.Strconv.ParseUint10Empty
import Derived.Shelf.Strconv.ParseUint10Any
import Derived.Shelf.Strconv.ParseInt10
import Derived.Shelf.Strconv.RangeError
import Derived.Shelf.Strconv.ToErrorRange
import Derived.Shelf.Strconv.ParseUintEmpty
import Derived.Shelf.Strconv.ParseUint10b64
import Derived.Shelf.Strconv.ParseUint10b32
import Derived.Shelf.Strconv.ParseUint10b16
import Derived.Shelf.Strconv.ParseUint10b8
import Derived.Shelf.Strconv.ParseUint10At
import Derived.Shelf.Strconv.ParseInt10At64
import Derived.Shelf.Strconv.ParseInt10At32
import Derived.Shelf.Strconv.ParseInt10At16
import Derived.Shelf.Strconv.ParseInt10At8
import Derived.Shelf.Strconv.ParseInt10All
import Derived.Shelf.Strconv.ParseIntPublic10
import Derived.Shelf.Strings.Search1
import Derived.Shelf.Strings.Search2
import Derived.Shelf.Strings.Search3
import Derived.Shelf.Strings.Cut
import Derived.Shelf.Strings.Count
import Derived.Shelf.Strings.Shaped
import Derived.Shelf.Strings.Prefix
import Derived.Shelf.Strings.Split
import Derived.Shelf.Strings.SplitShaped
import Derived.Shelf.Unicode.Decode
import Derived.Shelf.Strings.RuneCount
import Derived.Shelf.Strings.Explode
import Derived.Shelf.Unicode.DecodeSlow
import Derived.Shelf.Slices.Turned
import Derived.Ground.Names2Prog
import Derived.Shelf.Slices.Clone
import Derived.Test.YtjfmjbmkkpkppaaGreatDoorProg
import Derived.Test.YtjfmjbmkkpkppaaGreatDoorTopStreamsFQ1
import Derived.Sort.Grow
import Derived.Deep.Draws
import Derived.Lib.Bytealg
import Derived.Lib.IndexMore
import Derived.Lib.Strings
import Derived.Lib.ItoaNum
import Derived.Lib.ParseIntB
import Derived.Lib.AppendStr
import Derived.Test.YtjfmjbmkkpkppaaGreatDoorTopStreamsFQ2
import Derived.Lib.Split
import Derived.Lib.SlicesS
import Derived.Lib.LaidTab
import Derived.Lib.ConvBytes
import Derived.Lib.SplitLaws
import Derived.Lib.ReplaceLaws
set_option linter.unusedVariables false
set_option linter.unusedSimpArgs false
namespace Go.Proofs.YtjfmjbmkkpkppaaGreatDoor
open Go.Proofs.Tryz
open Go Go.Sl Go.Sl.BitM Go.Sl.SpM Go.Sl.RsM Go.Sl.ByM Go.Sl.UnM Go.Sl.TpM
set_option maxHeartbeats 1000000
set_option maxRecDepth 8000
variable {W0 w : World} {L F : List HProp}
theorem named_ok {K o u : Int} {xa xn xh xf xt xp : Bool} {k : Nat} (h : On W0 L w) : Calls Tryz.prog 51 #[.agg #[.int .i64 K, .int .u8 o, .int .u8 u, .bool xa, .bool xn, .bool xh, .bool xf, .bool xt, .bool xp], .int .i64 (k : Int)] w (Ret fun v w' => v = .bool (decide (k = 0) || (decide (k = 1) && xp) || (decide (k = 2) && xt) || (decide (2 ≤ k ∧ k < 10) && xa) || (decide (10 ≤ k ∧ k < 14) && xn) || (decide (k = 13) && xh)) ∧ On W0 L w') := by
 refine enter func51 rfl ntmps51 rfl (W.sr (WL.e (eff_box (v := .agg _) (l := [.int .i64 K, .int .u8 o, .int .u8 u, .bool xa, .bool xn, .bool xh, .bool xf, .bool xt, .bool xp]) h rfl rfl) ?_))
 rintro _ w ⟨b2, rfl, h⟩
 refine WL.z (W.seq (W.block ?_))
 refine W.cut (fun env w => ∃ (j : Env), env = mkE j [(1, .int .i64 (k : Int)), (2, .pointer (some ⟨b2, 0, none⟩)), (4, .bool false), (5, .bool (decide (k = 0) || (decide (k = 1) && xp) || (decide (k = 2) && xt) || (decide (2 ≤ k ∧ k < 10) && xa) || (decide (10 ≤ k ∧ k < 14) && xn) || (decide (k = 13) && xh)))] ∧ On W0 (blk b2 [.int .i64 K, .int .u8 o, .int .u8 u, .bool xa, .bool xn, .bool xh, .bool xf, .bool xt, .bool xp] 81 :: L) w) ?_ ?_
 ·
  refine W.sr (WL.m (WL.v (run_eql rfl rfl) (WL.z ?_)))
  refine W.condIf rfl (fun c3 => ?_) (fun c3 => ?_)
  ·
   refine W.skip ?_
   have e : decide ((k : Int) = 0) = (decide (k = 0) || (decide (k = 1) && xp) || (decide (k = 2) && xt) || (decide (2 ≤ k ∧ k < 10) && xa) || (decide (10 ≤ k ∧ k < 14) && xn) || (decide (k = 13) && xh)) := by rw [decide_eq_true (show (k : Int) = 0 by omega), decide_eq_true (show k = 0 by omega)]; rfl
   exact ⟨_, mkE_of ⟨rfl, rfl, rfl, congrArg Value.bool e, trivial⟩, h.to⟩
  refine W.cut (fun env w => ∃ (j : Env), env = mkE j [(1, .int .i64 (k : Int)), (2, .pointer (some ⟨b2, 0, none⟩)), (4, .bool false), (5, .bool (decide (k = 1) && xp))] ∧ On W0 (blk b2 [.int .i64 K, .int .u8 o, .int .u8 u, .bool xa, .bool xn, .bool xh, .bool xf, .bool xt, .bool xp] 81 :: L) w) ?_ ?_
  ·
   refine W.region (WL.m ?_)
   refine WL.q (run_eql rfl rfl) (fun c9 => ?_) (fun c9 => ?_)
   ·
    refine WL.m (WL.c 8 underlying81 rfl sizeOf4 rfl isAgg4 h rfl (WL.pt (WL.z ?_)))
    have e : xp = (decide (k = 1) && xp) := by rw [decide_eq_true (show (k = 1) by omega)]; rfl
    exact ⟨_, mkE_of ⟨rfl, rfl, rfl, congrArg Value.bool e, trivial⟩, h.to⟩
   refine WL.m (WL.s (WL.s (WL.pf (WL.z ?_))))
   have e : false = (decide (k = 1) && xp) := by rw [decide_eq_false (show ¬ (k = 1) by omega)]; rfl
   exact ⟨_, mkE_of ⟨rfl, rfl, rfl, congrArg Value.bool e, trivial⟩, h.to⟩
  clear h
  rintro env w ⟨j, rfl, h⟩
  refine W.condB rfl (fun c6 => ?_) (fun c6 => ?_)
  ·
   refine W.skip ?_
   have e : (decide (k = 1) && xp) = (decide (k = 0) || (decide (k = 1) && xp) || (decide (k = 2) && xt) || (decide (2 ≤ k ∧ k < 10) && xa) || (decide (10 ≤ k ∧ k < 14) && xn) || (decide (k = 13) && xh)) := by rw [c6]; simp
   exact ⟨_, mkE_of ⟨rfl, rfl, rfl, congrArg Value.bool e, trivial⟩, h.to⟩
  refine W.cut (fun env w => ∃ (j : Env), env = mkE j [(1, .int .i64 (k : Int)), (2, .pointer (some ⟨b2, 0, none⟩)), (4, .bool false), (5, .bool (decide (k = 2) && xt))] ∧ On W0 (blk b2 [.int .i64 K, .int .u8 o, .int .u8 u, .bool xa, .bool xn, .bool xh, .bool xf, .bool xt, .bool xp] 81 :: L) w) ?_ ?_
  ·
   refine W.region (WL.m ?_)
   refine WL.q (run_eql rfl rfl) (fun c15 => ?_) (fun c15 => ?_)
   ·
    refine WL.m (WL.c 7 underlying81 rfl sizeOf4 rfl isAgg4 h rfl (WL.pt (WL.z ?_)))
    have e : xt = (decide (k = 2) && xt) := by rw [decide_eq_true (show (k = 2) by omega)]; rfl
    exact ⟨_, mkE_of ⟨rfl, rfl, rfl, congrArg Value.bool e, trivial⟩, h.to⟩
   refine WL.m (WL.s (WL.s (WL.pf (WL.z ?_))))
   have e : false = (decide (k = 2) && xt) := by rw [decide_eq_false (show ¬ (k = 2) by omega)]; rfl
   exact ⟨_, mkE_of ⟨rfl, rfl, rfl, congrArg Value.bool e, trivial⟩, h.to⟩
  clear h
  rintro env w ⟨j, rfl, h⟩
  refine W.condB rfl (fun c9 => ?_) (fun c9 => ?_)
  ·
   refine W.skip ?_
   have e : (decide (k = 2) && xt) = (decide (k = 0) || (decide (k = 1) && xp) || (decide (k = 2) && xt) || (decide (2 ≤ k ∧ k < 10) && xa) || (decide (10 ≤ k ∧ k < 14) && xn) || (decide (k = 13) && xh)) := by rw [c9]; simp
   exact ⟨_, mkE_of ⟨rfl, rfl, rfl, congrArg Value.bool e, trivial⟩, h.to⟩
  refine W.cut (fun env w => ∃ (j : Env), env = mkE j [(1, .int .i64 (k : Int)), (2, .pointer (some ⟨b2, 0, none⟩)), (4, .bool false), (5, .bool (decide (2 ≤ k ∧ k < 10) && xa))] ∧ On W0 (blk b2 [.int .i64 K, .int .u8 o, .int .u8 u, .bool xa, .bool xn, .bool xh, .bool xf, .bool xt, .bool xp] 81 :: L) w) ?_ ?_
  ·
   refine W.region (WL.m ?_)
   refine WL.q (run_geq rfl rfl) (fun c21 => ?_) (fun c21 => ?_)
   ·
    refine WL.m (WL.m ?_)
    refine WL.q (run_lss rfl rfl) (fun c24 => ?_) (fun c24 => ?_)
    ·
     refine WL.pt (WL.m (WL.c 3 underlying81 rfl sizeOf4 rfl isAgg4 h rfl (WL.pt (WL.z ?_))))
     have e : xa = (decide (2 ≤ k ∧ k < 10) && xa) := by rw [decide_eq_true (show (2 ≤ k ∧ k < 10) by omega)]; rfl
     exact ⟨_, mkE_of ⟨rfl, rfl, rfl, congrArg Value.bool e, trivial⟩, h.to⟩
    refine WL.pt (WL.m (WL.s (WL.s (WL.pf (WL.z ?_)))))
    have e : false = (decide (2 ≤ k ∧ k < 10) && xa) := by rw [decide_eq_false (show ¬ (2 ≤ k ∧ k < 10) by omega)]; rfl
    exact ⟨_, mkE_of ⟨rfl, rfl, rfl, congrArg Value.bool e, trivial⟩, h.to⟩
   refine WL.m (WL.s (WL.s (WL.pf (WL.m (WL.s (WL.s (WL.pf ?_)))))))
   refine WL.z ?_
   have e : false = (decide (2 ≤ k ∧ k < 10) && xa) := by rw [decide_eq_false (show ¬ (2 ≤ k ∧ k < 10) by omega)]; rfl
   exact ⟨_, mkE_of ⟨rfl, rfl, rfl, congrArg Value.bool e, trivial⟩, h.to⟩
  clear h
  rintro env w ⟨j, rfl, h⟩
  refine W.condB rfl (fun c12 => ?_) (fun c12 => ?_)
  ·
   refine W.skip ?_
   have e : (decide (2 ≤ k ∧ k < 10) && xa) = (decide (k = 0) || (decide (k = 1) && xp) || (decide (k = 2) && xt) || (decide (2 ≤ k ∧ k < 10) && xa) || (decide (10 ≤ k ∧ k < 14) && xn) || (decide (k = 13) && xh)) := by rw [c12]; simp
   exact ⟨_, mkE_of ⟨rfl, rfl, rfl, congrArg Value.bool e, trivial⟩, h.to⟩
  refine W.cut (fun env w => ∃ (j : Env), env = mkE j [(1, .int .i64 (k : Int)), (2, .pointer (some ⟨b2, 0, none⟩)), (4, .bool false), (5, .bool (decide (10 ≤ k ∧ k < 14) && xn))] ∧ On W0 (blk b2 [.int .i64 K, .int .u8 o, .int .u8 u, .bool xa, .bool xn, .bool xh, .bool xf, .bool xt, .bool xp] 81 :: L) w) ?_ ?_
  ·
   refine W.region (WL.m ?_)
   refine WL.q (run_geq rfl rfl) (fun c31 => ?_) (fun c31 => ?_)
   ·
    refine WL.m (WL.m ?_)
    refine WL.q (run_lss rfl rfl) (fun c34 => ?_) (fun c34 => ?_)
    ·
     refine WL.pt (WL.m (WL.c 4 underlying81 rfl sizeOf4 rfl isAgg4 h rfl (WL.pt (WL.z ?_))))
     have e : xn = (decide (10 ≤ k ∧ k < 14) && xn) := by rw [decide_eq_true (show (10 ≤ k ∧ k < 14) by omega)]; rfl
     exact ⟨_, mkE_of ⟨rfl, rfl, rfl, congrArg Value.bool e, trivial⟩, h.to⟩
    refine WL.pt (WL.m (WL.s (WL.s (WL.pf (WL.z ?_)))))
    have e : false = (decide (10 ≤ k ∧ k < 14) && xn) := by rw [decide_eq_false (show ¬ (10 ≤ k ∧ k < 14) by omega)]; rfl
    exact ⟨_, mkE_of ⟨rfl, rfl, rfl, congrArg Value.bool e, trivial⟩, h.to⟩
   refine WL.m (WL.s (WL.s (WL.pf (WL.m (WL.s (WL.s (WL.pf ?_)))))))
   refine WL.z ?_
   have e : false = (decide (10 ≤ k ∧ k < 14) && xn) := by rw [decide_eq_false (show ¬ (10 ≤ k ∧ k < 14) by omega)]; rfl
   exact ⟨_, mkE_of ⟨rfl, rfl, rfl, congrArg Value.bool e, trivial⟩, h.to⟩
  clear h
  rintro env w ⟨j, rfl, h⟩
  refine W.condB rfl (fun c15 => ?_) (fun c15 => ?_)
  ·
   refine W.skip ?_
   have e : (decide (10 ≤ k ∧ k < 14) && xn) = (decide (k = 0) || (decide (k = 1) && xp) || (decide (k = 2) && xt) || (decide (2 ≤ k ∧ k < 10) && xa) || (decide (10 ≤ k ∧ k < 14) && xn) || (decide (k = 13) && xh)) := by rw [c15]; simp
   exact ⟨_, mkE_of ⟨rfl, rfl, rfl, congrArg Value.bool e, trivial⟩, h.to⟩
  refine W.region (WL.m ?_)
  refine WL.q (run_eql rfl rfl) (fun c41 => ?_) (fun c41 => ?_)
  ·
   refine WL.m (WL.c 5 underlying81 rfl sizeOf4 rfl isAgg4 h rfl (WL.pt (WL.z ?_)))
   have e : xh = (decide (k = 0) || (decide (k = 1) && xp) || (decide (k = 2) && xt) || (decide (2 ≤ k ∧ k < 10) && xa) || (decide (10 ≤ k ∧ k < 14) && xn) || (decide (k = 13) && xh)) := by rw [decide_eq_false (show ¬ (k = 0) by omega), c6, c9, c12, c15, decide_eq_true (show k = 13 by omega)]; rfl
   exact ⟨_, mkE_of ⟨rfl, rfl, rfl, congrArg Value.bool e, trivial⟩, h.to⟩
  refine WL.m (WL.s (WL.s (WL.pf (WL.z ?_))))
  have e : false = (decide (k = 0) || (decide (k = 1) && xp) || (decide (k = 2) && xt) || (decide (2 ≤ k ∧ k < 10) && xa) || (decide (10 ≤ k ∧ k < 14) && xn) || (decide (k = 13) && xh)) := by rw [decide_eq_false (show ¬ (k = 0) by omega), c6, c9, c12, c15, decide_eq_false (show ¬ (k = 13) by omega)]; rfl
  exact ⟨_, mkE_of ⟨rfl, rfl, rfl, congrArg Value.bool e, trivial⟩, h.to⟩
 clear h
 rintro env w ⟨j, rfl, h⟩
 refine W.condB rfl (fun c18 => ?_) (fun c18 => ?_)
 ·
  refine W.sr (WL.z (W.ret (bodyQ.r1 (v := .bool _) results51 rfl ?_)))
  exact ⟨congrArg Value.bool c18.symm, h.tail⟩
 refine W.skip (W.sr (WL.z (W.ret (bodyQ.r1 (v := .bool _) results51 rfl ?_))))
 exact ⟨congrArg Value.bool c18.symm, h.tail⟩
theorem nb_an : ∀ k, k < 16 → (decide (k = 0) || (decide (k = 1) && false) || (decide (k = 2) && false) || (decide (2 ≤ k ∧ k < 10) && true) || (decide (10 ≤ k ∧ k < 14) && true) || (decide (k = 13) && false)) = decide (k ≠ 1 ∧ k < 14) := by decide
theorem dec1false_ok {M : List HProp} {b1 e bb ob cb : Nat} {fr : Nat × Nat} {bs : List UInt8} {xk : Int} {xo xs : UInt8} {xa xn xh xf xt : Bool} (hl : 16 ≤ bs.length) [i : HasBlk L b1 [.slice (some ⟨bb, ob, none⟩) bs.length cb] e fr] (C : Gives L (Bytes (.slice (some ⟨bb, ob, none⟩) bs.length cb) bs)) [tm : To M L] (h : On W0 M w) : Calls Tryz.prog 50 #[.agg #[.int .i64 xk, .int .u8 (xo.toNat : Int), .int .u8 (xs.toNat : Int), .bool xa, .bool xn, .bool xh, .bool xf, .bool xt, .bool false], .pointer (some ⟨b1, 0, none⟩)] w (Ret fun v w' => v = .bool (decide (xo = bs.getD 0 0) && (!false || decide (xs = bs.getD 1 0))) ∧ On W0 M w') := by
 refine enter func50 rfl ntmps50 rfl ?_
 have hmx := maxLen_eq
 have gM : Gives M (Bytes (.slice (some ⟨bb, ob, none⟩) bs.length cb) bs) := Gives.to C
 refine W.sr (WL.e (eff_box (v := .agg _) (l := [.int .i64 xk, .int .u8 (xo.toNat : Int), .int .u8 (xs.toNat : Int), .bool xa, .bool xn, .bool xh, .bool xf, .bool xt, .bool false]) h rfl rfl) ?_)
 rintro _ w ⟨b2, rfl, h⟩
 refine WL.z (W.seq ?_)
 refine W.draw Tryz.follows h (fun w h => ?_)
 refine WT.f 0 1 rfl underlying81 rfl sizeOf5 rfl rfl (WT.l 1 rfl isAgg5 rfl (h.cellB rfl) (WT.l 2 rfl isAgg26 rfl ((h.tail.to : On W0 L _).cellB rfl) (WT.p 3 rfl (fun w' => (run_indexAddr underlying26 sizeOf5 rfl rfl (by omega) (by omega))) (WT.l 4 rfl isAgg5 rfl ((h.readsTo gM).elem (i := 0) (vs := [.int .u8 ((bs.getD 0 0).toNat : Int)]) (by omega) (getD_row (by omega)) 0 _ rfl) ?_))))
 refine WT.dec 5 rfl (by kernel_rfl) (fun w' => (run_eql rfl rfl)) rfl rfl (fun c9 => ?_) (fun c9 => ?_)
 ·
  refine WT.m 6 rfl (WT.f 7 8 rfl underlying81 rfl sizeOf4 rfl rfl (WT.l 8 rfl isAgg4 rfl (h.cellB rfl) (WT.p 9 rfl (fun w' => (run_not rfl)) (WT.m 10 rfl (WT.skip 11 rfl (by kernel_rfl) rfl rfl (WT.skip 12 rfl (by kernel_rfl) rfl rfl (WT.skip 13 rfl (by kernel_rfl) rfl rfl ?_)))))))
  refine WT.skip 14 rfl (by kernel_rfl) rfl rfl (WT.skip 15 rfl (by kernel_rfl) rfl rfl (WT.skip 16 rfl (by kernel_rfl) rfl rfl (WT.p 17 rfl (fun w' => (run_pickT rfl)) (WT.p 18 rfl (fun w' => (run_pickT rfl)) (WT.a 19 rfl (WT.dn (W.ret ?_)))))))
  refine bodyQ.r1 (v := .bool _) results50 rfl ?_
  have e0 : xo = bs.getD 0 0 := UInt8.toNat_inj.1 (by omega)
  rw [decide_eq_true e0]
  exact ⟨rfl, h.tail⟩
 refine WT.m 6 rfl (WT.skip 7 rfl (by kernel_rfl) rfl rfl (WT.skip 8 rfl (by kernel_rfl) rfl rfl (WT.skip 9 rfl (by kernel_rfl) rfl rfl (WT.skip 10 rfl (by kernel_rfl) rfl rfl (WT.skip 11 rfl (by kernel_rfl) rfl rfl (WT.skip 12 rfl (by kernel_rfl) rfl rfl (WT.skip 13 rfl (by kernel_rfl) rfl rfl ?_)))))))
 refine WT.skip 14 rfl (by kernel_rfl) rfl rfl (WT.skip 15 rfl (by kernel_rfl) rfl rfl (WT.skip 16 rfl (by kernel_rfl) rfl rfl (WT.skip 17 rfl (by kernel_rfl) rfl rfl (WT.p 18 rfl (fun w' => (run_pickF rfl)) (WT.a 19 rfl (WT.dn (W.ret ?_)))))))
 refine bodyQ.r1 (v := .bool _) results50 rfl ?_
 have e0 : ¬ xo = bs.getD 0 0 := fun e => c9 (by rw [e])
 rw [decide_eq_false e0]
 exact ⟨rfl, h.tail⟩
theorem dec1true_ok {M : List HProp} {b1 e bb ob cb : Nat} {fr : Nat × Nat} {bs : List UInt8} {xk : Int} {xo xs : UInt8} {xa xn xh xf xt : Bool} (hl : 16 ≤ bs.length) [i : HasBlk L b1 [.slice (some ⟨bb, ob, none⟩) bs.length cb] e fr] (C : Gives L (Bytes (.slice (some ⟨bb, ob, none⟩) bs.length cb) bs)) [tm : To M L] (h : On W0 M w) : Calls Tryz.prog 50 #[.agg #[.int .i64 xk, .int .u8 (xo.toNat : Int), .int .u8 (xs.toNat : Int), .bool xa, .bool xn, .bool xh, .bool xf, .bool xt, .bool true], .pointer (some ⟨b1, 0, none⟩)] w (Ret fun v w' => v = .bool (decide (xo = bs.getD 0 0) && (!true || decide (xs = bs.getD 1 0))) ∧ On W0 M w') := by
 refine enter func50 rfl ntmps50 rfl ?_
 have hmx := maxLen_eq
 have gM : Gives M (Bytes (.slice (some ⟨bb, ob, none⟩) bs.length cb) bs) := Gives.to C
 refine W.sr (WL.e (eff_box (v := .agg _) (l := [.int .i64 xk, .int .u8 (xo.toNat : Int), .int .u8 (xs.toNat : Int), .bool xa, .bool xn, .bool xh, .bool xf, .bool xt, .bool true]) h rfl rfl) ?_)
 rintro _ w ⟨b2, rfl, h⟩
 refine WL.z (W.seq ?_)
 refine W.draw Tryz.follows h (fun w h => ?_)
 refine WT.f 0 1 rfl underlying81 rfl sizeOf5 rfl rfl (WT.l 1 rfl isAgg5 rfl (h.cellB rfl) (WT.l 2 rfl isAgg26 rfl ((h.tail.to : On W0 L _).cellB rfl) (WT.p 3 rfl (fun w' => (run_indexAddr underlying26 sizeOf5 rfl rfl (by omega) (by omega))) (WT.l 4 rfl isAgg5 rfl ((h.readsTo gM).elem (i := 0) (vs := [.int .u8 ((bs.getD 0 0).toNat : Int)]) (by omega) (getD_row (by omega)) 0 _ rfl) ?_))))
 refine WT.dec 5 rfl (by kernel_rfl) (fun w' => (run_eql rfl rfl)) rfl rfl (fun c9 => ?_) (fun c9 => ?_)
 ·
  refine WT.m 6 rfl (WT.f 7 8 rfl underlying81 rfl sizeOf4 rfl rfl (WT.l 8 rfl isAgg4 rfl (h.cellB rfl) (WT.p 9 rfl (fun w' => (run_not rfl)) (WT.m 10 rfl (WT.f 11 2 rfl underlying81 rfl sizeOf5 rfl rfl (WT.l 12 rfl isAgg5 rfl (h.cellB rfl) (WT.l 13 rfl isAgg26 rfl ((h.tail.to : On W0 L _).cellB rfl) ?_)))))))
  refine WT.p 14 rfl (fun w' => (run_indexAddr underlying26 sizeOf5 rfl rfl (by omega) (by omega))) (WT.l 15 rfl isAgg5 rfl ((h.readsTo gM).elem (i := 1) (vs := [.int .u8 ((bs.getD 1 0).toNat : Int)]) (by omega) (getD_row (by omega)) 0 _ rfl) (WT.p 16 rfl (fun w' => (run_eql rfl rfl)) (WT.p 17 rfl (fun w' => (run_pickF rfl)) (WT.p 18 rfl (fun w' => (run_pickT rfl)) (WT.a 19 rfl (WT.dn (W.ret ?_)))))))
  refine bodyQ.r1 (v := .bool _) results50 rfl ?_
  have e0 : xo = bs.getD 0 0 := UInt8.toNat_inj.1 (by omega)
  have e1 : decide (((xs.toNat : Nat) : Int) = ((bs.getD 1 0).toNat : Int)) = decide (xs = bs.getD 1 0) := decide_eq_decide.2 ⟨fun e => UInt8.toNat_inj.1 (by omega), fun e => by rw [e]⟩
  rw [e1, decide_eq_true e0]
  exact ⟨by cases decide (xs = bs.getD 1 0) <;> rfl, h.tail⟩
 refine WT.m 6 rfl (WT.skip 7 rfl (by kernel_rfl) rfl rfl (WT.skip 8 rfl (by kernel_rfl) rfl rfl (WT.skip 9 rfl (by kernel_rfl) rfl rfl (WT.skip 10 rfl (by kernel_rfl) rfl rfl (WT.skip 11 rfl (by kernel_rfl) rfl rfl (WT.skip 12 rfl (by kernel_rfl) rfl rfl (WT.skip 13 rfl (by kernel_rfl) rfl rfl ?_)))))))
 refine WT.skip 14 rfl (by kernel_rfl) rfl rfl (WT.skip 15 rfl (by kernel_rfl) rfl rfl (WT.skip 16 rfl (by kernel_rfl) rfl rfl (WT.skip 17 rfl (by kernel_rfl) rfl rfl (WT.p 18 rfl (fun w' => (run_pickF rfl)) (WT.a 19 rfl (WT.dn (W.ret ?_)))))))
 refine bodyQ.r1 (v := .bool _) results50 rfl ?_
 have e0 : ¬ xo = bs.getD 0 0 := fun e => c9 (by rw [e])
 rw [decide_eq_false e0]
 exact ⟨rfl, h.tail⟩
theorem dec1_ok {M : List HProp} {b1 e bb ob cb : Nat} {fr : Nat × Nat} {bs : List UInt8} (x : Cd) (hl : 16 ≤ bs.length) [i : HasBlk L b1 [.slice (some ⟨bb, ob, none⟩) bs.length cb] e fr] (C : Gives L (Bytes (.slice (some ⟨bb, ob, none⟩) bs.length cb) bs)) [tm : To M L] (h : On W0 M w) : Calls Tryz.prog 50 #[.agg x.cells.toArray, .pointer (some ⟨b1, 0, none⟩)] w (Ret fun v w' => v = .bool ((fun x => decide (x.op = bs.getD 0 0) && (!x.par || decide (x.sub = bs.getD 1 0))) x) ∧ On W0 M w') := by
 obtain ⟨xk, xo, xs, xa, xn, xh, xf, xt, xp⟩ := x
 cases xp with
 | false => exact dec1false_ok hl C h
 | true => exact dec1true_ok hl C h
theorem dec_2_ok {bb ob cb : Nat} {bs : List UInt8} (hl : bs.length = 16) (h0 : bs.getD 0 0 = 136) (hz : bs.getD 1 0 = 0 ∧ bs.getD 14 0 = 0 ∧ bs.getD 15 0 = 0) (hat : beV ((bs.drop 2).take 8) ≤ 4611686018427387904) (h : On W0 L w) (C : Gives L (Bytes (.slice (some ⟨bb, ob, none⟩) bs.length cb) bs)) : Calls Tryz.prog 14 #[.slice (some ⟨bb, ob, none⟩) bs.length cb] w (Ret fun v w' => v = .tuple #[.agg #[.int .i64 2, .int .i64 (beV ((bs.drop 2).take 8) : Nat), .int .i64 (beV ((bs.drop 10).take 4) : Nat), .slice none 0 0, .int .u64 0, .int .u64 0, .int .i64 0, .bool false], .agg #[.int .i64 0, .int .i64 0, .int .i64 0, .slice none 0 0, .int .i64 0], .bool true] ∧ On W0 L w') := by
 refine enter func14 rfl ntmps14 rfl ?_
 have hmx := maxLen_eq
 have hbd := (h.readsTo C).bounds
 obtain ⟨hbc, hbm⟩ := hbd
 refine W.sr (WL.e (eff_box (v := .slice (some ⟨bb, ob, none⟩) bs.length cb) (l := [.slice (some ⟨bb, ob, none⟩) bs.length cb]) h rfl rfl) ?_)
 rintro _ w ⟨b1, rfl, h⟩
 refine WL.e (eff_alloc h zeroValue29 rfl) ?_
 rintro _ w ⟨b2, rfl, h⟩
 refine WL.e (eff_alloc h zeroValue44 rfl) ?_
 rintro _ w ⟨b3, rfl, h⟩
 refine WL.z (W.scope (W.seq (W.sr (WL.l isAgg26 rfl (h.cellB rfl) (WL.v (run_lenSlice underlying26 rfl) ?_)))))
 refine WL.v (run_lssF rfl rfl (by omega)) (WL.nil (W.cs (W.sr (WL.v run_makeFunc (WL.e (eff_call call36 (cfind_ok (f := 50) (caps := #[.pointer (some ⟨b1, 0, none⟩)]) (p := fun x => decide (x.op = bs.getD 0 0) && (!x.par || decide (x.sub = bs.getD 1 0))) h call50 (fun x M w tm h => dec1_ok (tm := tm) x (by omega) (Gives.to C) h))) ?_)))))
 rintro _ w ⟨hv, h⟩
 have hfd : codesL.find? (fun x => decide (x.op = bs.getD 0 0) && (!x.par || decide (x.sub = bs.getD 1 0))) = some (⟨2, 136, 0, true, true, false, false, false, false⟩ : Cd) := by simp only [h0]; rfl
 rcases hv with ⟨x, hx, rfl⟩ | ⟨hx, rfl⟩
 rotate_left
 · rw [hfd] at hx; cases hx
 have hx2 := Option.some.inj (hx.symm.trans hfd)
 subst hx2
 refine WL.m (WL.v (run_extract rfl rfl) (WL.v (run_extract rfl rfl) (WL.e (eff_alloc h zeroValue81 rfl) ?_)))
 rintro _ w ⟨b5, rfl, h⟩
 refine WL.e (eff_storeW (vs := [.int .i64 2, .int .u8 136, .int .u8 0, .bool true, .bool true, .bool false, .bool false, .bool false, .bool false]) h sizeOf81 rfl rfl rfl rfl rfl) ?_
 rintro _ w h
 refine WL.z (W.seq (W.sr (WL.m (WL.v (run_not rfl) (WL.nil ?_)))))
 refine W.cs (W.sr (WL.c 0 underlying81 rfl sizeOf3 rfl isAgg3 h rfl (WL.v (run_buildS (pl := qp4) (out := qv3) underlying29 zeroValue29 (fun w => by kernel_rfl) rfl (⟨⟨_, _, rfl, rfl, by decide⟩, trivial⟩) rfl) (WL.e (eff_alloc h zeroValue29 rfl) ?_))))
 rintro _ w ⟨b7, rfl, h⟩
 refine WL.e (eff_storeW (vs := qv3) h sizeOf29 rfl rfl rfl rfl rfl) ?_
 rintro _ w h
 refine WL.nil (W.sr (WL.z (W.seq (W.label (W.seq ?_)))))
 refine W.sr (WL.l isAgg26 rfl (h.cellB rfl) (WL.v (run_cutH (h := 16) underlying26 sizeOf5 rfl rfl (by omega)) (WL.v (run_lenSlice underlying26 rfl) (WL.m (WL.nil (W.block ?_))))))
 refine W.loop (fun (k : Nat) env w => k ≤ 16 ∧ ∃ (j : Env), env = mkE j [(1, .pointer (some ⟨b1, 0, none⟩)), (2, .pointer (some ⟨b2, 0, none⟩)), (3, .pointer (some ⟨b3, 0, none⟩)), (5, .pointer (some ⟨b5, 0, none⟩)), (7, .pointer (some ⟨b7, 0, none⟩)), (8, .bool false), (33, .slice (some ⟨bb, ob, none⟩) 16 cb), (34, .int .i64 16), (35, .int .i64 (k : Int))] ∧ On W0 (blk b7 [.int .i64 2, .int .i64 0, .int .i64 0, .slice none 0 0, .int .u64 0, .int .u64 0, .int .i64 0, .bool false] 29 :: blk b5 [.int .i64 2, .int .u8 136, .int .u8 0, .bool true, .bool true, .bool false, .bool false, .bool false, .bool false] 81 :: blk b3 [.int .i64 0, .int .i64 0, .int .i64 0, .slice none 0 0, .int .i64 0] 44 :: blk b2 [.int .i64 0, .int .i64 0, .int .i64 0, .slice none 0 0, .int .u64 0, .int .u64 0, .int .i64 0, .bool false] 29 :: blk b1 [.slice (some ⟨bb, ob, none⟩) bs.length cb] 26 :: L) w) (fun k => 16 - k) (0) ?_ ?_
 · exact ⟨by decide, _, mkE_of ⟨rfl, rfl, rfl, rfl, rfl, rfl, rfl, rfl, rfl, trivial⟩, h.to⟩
 clear h
 rintro k env w ⟨hk, j, rfl, h⟩
 refine W.sr (WL.v (run_lss rfl rfl) (WL.nil (W.seq ?_)))
 refine W.condIf rfl (fun c20 => ?_) (fun c20 => ?_)
 ·
  refine W.skip (W.seq ?_)
  have hk16 : k < 16 := by omega
  have ob_ : ∃ c, bs[k]? = some c := ⟨bs[k]'(by omega), List.getElem?_eq_getElem _⟩
  obtain ⟨c, hc⟩ := ob_
  refine W.block (W.sr (WL.m (WL.v (run_indexAddr underlying26 sizeOf5 rfl rfl (by omega) (by omega)) (WL.l isAgg5 rfl ((h.readsTo C).elem (i := k) (vs := [.int .u8 (c.toNat : Int)]) (by omega) (bytes_row hc) 0 _ rfl) (WL.a (WL.a ?_))))))
  refine WL.nil (W.seq (W.sr (WL.v (run_loadB (vs := qv2) h isAgg81 sizeOf81 rfl rfl rfl) (WL.m (WL.e (eff_call call51 (named_ok h)) ?_)))))
  rintro _ w ⟨hv, h⟩
  rw [nb_an k hk16] at hv
  have hcs := Bool.eq_false_or_eq_true (decide (k ≠ 1 ∧ k < 14))
  rcases hcs with hnm | hnm <;> (rw [hnm] at hv; subst hv)
  ·
   refine WL.nil (W.ct (W.exit (W.region (WL.v (run_incN rfl rfl (by omega)) (WL.m (WL.nil ?_))))))
   exact ⟨k + 1, ⟨by omega, _, mkE_of ⟨rfl, rfl, rfl, rfl, rfl, rfl, rfl, rfl, rfl, trivial⟩, h.to⟩, by show 16 - (k + 1) < 16 - k; omega⟩
  have hno := of_decide_eq_false hnm
  have hcd : c = bs.getD k 0 := by rw [List.getD_eq_getElem?_getD, hc]; rfl
  have hc0 : c = 0 := by
    rw [hcd]
    have h3 : k = 1 ∨ k = 14 ∨ k = 15 := by omega
    rcases h3 with e | e | e <;> rw [e]
    · exact hz.1
    · exact hz.2.1
    exact hz.2.2
  subst hc0
  refine WL.nil (W.cs (W.seq (W.sr (WL.m ?_))))
  refine WL.q (run_eql rfl rfl) (fun c44 => ?_) (fun c44 => ?_)
  ·
   refine WL.m (WL.c 6 underlying81 rfl sizeOf4 rfl isAgg4 h rfl (WL.pt (WL.m (WL.s (WL.s (WL.pf ?_))))))
   refine WL.nil (W.cs (W.region (WL.m (WL.m (WL.m (WL.v (run_neqF rfl rfl (by decide)) ?_))))))
   refine WL.pf (WL.z (W.region (WL.v (run_incN rfl rfl (by omega)) (WL.m (WL.nil ?_)))))
   exact ⟨k + 1, ⟨by omega, _, mkE_of ⟨rfl, rfl, rfl, rfl, rfl, rfl, rfl, rfl, rfl, trivial⟩, h.to⟩, by show 16 - (k + 1) < 16 - k; omega⟩
  refine WL.m (WL.s (WL.s (WL.pf (WL.m (WL.s (WL.s (WL.pf ?_)))))))
  refine WL.nil (W.cs (W.region (WL.m (WL.m (WL.m (WL.v (run_neqF rfl rfl (by decide)) ?_))))))
  refine WL.pf (WL.z (W.region (WL.v (run_incN rfl rfl (by omega)) (WL.m (WL.nil ?_)))))
  exact ⟨k + 1, ⟨by omega, _, mkE_of ⟨rfl, rfl, rfl, rfl, rfl, rfl, rfl, rfl, rfl, trivial⟩, h.to⟩, by show 16 - (k + 1) < 16 - k; omega⟩
 refine W.exit (W.seq (W.seq ?_))
 have ek : k = 16 := by omega
 subst ek
 refine W.region (WL.c 3 underlying81 rfl sizeOf4 rfl isAgg4 h rfl (WL.nil (W.ct (W.sr (WL.l isAgg26 rfl (h.cellB rfl) ?_)))))
 refine WL.e (eff_call call52 (bgetE_ok (p := 2) (n := 8) (bs := bs) (by decide) (by decide) h (Gives.to C))) ?_
 rintro _ w ⟨z, ok64, hz64, rfl, h⟩
 have hzz : z = beV ((bs.drop 2).take 8) := hz64 (by omega)
 subst hzz
 refine WL.m (WL.v (run_extract rfl rfl) (WL.v (run_extract rfl rfl) (WL.a (WL.z (W.sr ?_)))))
 refine WL.m (WL.m (WL.m (WL.v (run_gtrF rfl rfl (by omega)) (WL.pf (WL.z (W.region ?_))))))
 refine WL.m (WL.v (run_convInt64 underlying27 underlying3 rfl (by omega) (by omega)) (WL.f 1 underlying29 rfl sizeOf3 rfl rfl (WL.e (eff_store (v := .int .i64 _) h sizeOf3 rfl rfl rfl rfl rfl) ?_)))
 rintro _ w h
 try simp only [Nat.zero_add, Nat.add_zero, List.set_cons_zero, List.set_cons_succ] at h
 refine WL.nil (W.seq (W.block (W.sr (WL.c 4 underlying81 rfl sizeOf4 rfl isAgg4 h rfl (WL.a ?_)))))
 refine WL.nil (W.ct (W.sr (WL.l isAgg26 rfl (h.cellB rfl) (WL.e (eff_call call52 (bgetE_ok (p := 10) (n := 4) (bs := bs) (by decide) (by decide) h (Gives.to C))) ?_))))
 rintro _ w ⟨y, ok80, hz80, rfl, h⟩
 have hyy : y = beV ((bs.drop 10).take 4) := hz80 (by omega)
 subst hyy
 have hyl : beV ((bs.drop 10).take 4) < 4294967296 := be4_lt _
 refine WL.m (WL.v (run_extract rfl rfl) (WL.v (run_extract rfl rfl) (WL.a (WL.z (W.region (WL.m ?_))))))
 refine WL.v (run_convInt64 underlying27 underlying3 rfl (by omega) (by omega)) (WL.f 2 underlying29 rfl sizeOf3 rfl rfl (WL.e (eff_store (v := .int .i64 _) h sizeOf3 rfl rfl rfl rfl rfl) ?_))
 rintro _ w h
 try simp only [Nat.zero_add, Nat.add_zero, List.set_cons_zero, List.set_cons_succ] at h
 refine WL.nil (W.seq (W.sr (WL.m (WL.nil (W.cs ?_)))))
 refine W.sr (WL.v (run_loadB (vs := qv3) h isAgg29 sizeOf29 rfl rfl rfl) (WL.v (run_buildS (pl := qp0) (out := qv0) underlying44 zeroValue44 (fun w => by kernel_rfl) rfl (trivial) rfl) (WL.e (eff_storeW (vs := qv3) h sizeOf29 rfl rfl rfl rfl rfl) ?_)))
 rintro _ w h
 refine WL.e (eff_storeW (vs := qv0) h sizeOf44 rfl rfl rfl rfl rfl) ?_
 rintro _ w h
 refine WL.z (W.ret (bodyQ.rcctB (v3 := .bool true) h results14 isAgg29 sizeOf29 isAgg44 sizeOf44 rfl rfl rfl rfl rfl rfl rfl ?_))
 exact ⟨rfl, h.to⟩
theorem dec_3_ok {bb ob cb : Nat} {bs : List UInt8} (hl : bs.length = 16) (h0 : bs.getD 0 0 = 138) (hz : bs.getD 1 0 = 0 ∧ bs.getD 14 0 = 0 ∧ bs.getD 15 0 = 0) (hat : beV ((bs.drop 2).take 8) ≤ 4611686018427387904) (h : On W0 L w) (C : Gives L (Bytes (.slice (some ⟨bb, ob, none⟩) bs.length cb) bs)) : Calls Tryz.prog 14 #[.slice (some ⟨bb, ob, none⟩) bs.length cb] w (Ret fun v w' => v = .tuple #[.agg #[.int .i64 3, .int .i64 (beV ((bs.drop 2).take 8) : Nat), .int .i64 (beV ((bs.drop 10).take 4) : Nat), .slice none 0 0, .int .u64 0, .int .u64 0, .int .i64 0, .bool false], .agg #[.int .i64 0, .int .i64 0, .int .i64 0, .slice none 0 0, .int .i64 0], .bool true] ∧ On W0 L w') := by
 refine enter func14 rfl ntmps14 rfl ?_
 have hmx := maxLen_eq
 have hbd := (h.readsTo C).bounds
 obtain ⟨hbc, hbm⟩ := hbd
 refine W.sr (WL.e (eff_box (v := .slice (some ⟨bb, ob, none⟩) bs.length cb) (l := [.slice (some ⟨bb, ob, none⟩) bs.length cb]) h rfl rfl) ?_)
 rintro _ w ⟨b1, rfl, h⟩
 refine WL.e (eff_alloc h zeroValue29 rfl) ?_
 rintro _ w ⟨b2, rfl, h⟩
 refine WL.e (eff_alloc h zeroValue44 rfl) ?_
 rintro _ w ⟨b3, rfl, h⟩
 refine WL.z (W.scope (W.seq (W.sr (WL.l isAgg26 rfl (h.cellB rfl) (WL.v (run_lenSlice underlying26 rfl) ?_)))))
 refine WL.v (run_lssF rfl rfl (by omega)) (WL.nil (W.cs (W.sr (WL.v run_makeFunc (WL.e (eff_call call36 (cfind_ok (f := 50) (caps := #[.pointer (some ⟨b1, 0, none⟩)]) (p := fun x => decide (x.op = bs.getD 0 0) && (!x.par || decide (x.sub = bs.getD 1 0))) h call50 (fun x M w tm h => dec1_ok (tm := tm) x (by omega) (Gives.to C) h))) ?_)))))
 rintro _ w ⟨hv, h⟩
 have hfd : codesL.find? (fun x => decide (x.op = bs.getD 0 0) && (!x.par || decide (x.sub = bs.getD 1 0))) = some (⟨3, 138, 0, true, true, false, true, false, false⟩ : Cd) := by simp only [h0]; rfl
 rcases hv with ⟨x, hx, rfl⟩ | ⟨hx, rfl⟩
 rotate_left
 · rw [hfd] at hx; cases hx
 have hx2 := Option.some.inj (hx.symm.trans hfd)
 subst hx2
 refine WL.m (WL.v (run_extract rfl rfl) (WL.v (run_extract rfl rfl) (WL.e (eff_alloc h zeroValue81 rfl) ?_)))
 rintro _ w ⟨b5, rfl, h⟩
 refine WL.e (eff_storeW (vs := [.int .i64 3, .int .u8 138, .int .u8 0, .bool true, .bool true, .bool false, .bool true, .bool false, .bool false]) h sizeOf81 rfl rfl rfl rfl rfl) ?_
 rintro _ w h
 refine WL.z (W.seq (W.sr (WL.m (WL.v (run_not rfl) (WL.nil ?_)))))
 refine W.cs (W.sr (WL.c 0 underlying81 rfl sizeOf3 rfl isAgg3 h rfl (WL.v (run_buildS (pl := qp4) (out := qv3) underlying29 zeroValue29 (fun w => by kernel_rfl) rfl (⟨⟨_, _, rfl, rfl, by decide⟩, trivial⟩) rfl) (WL.e (eff_alloc h zeroValue29 rfl) ?_))))
 rintro _ w ⟨b7, rfl, h⟩
 refine WL.e (eff_storeW (vs := qv3) h sizeOf29 rfl rfl rfl rfl rfl) ?_
 rintro _ w h
 refine WL.nil (W.sr (WL.z (W.seq (W.label (W.seq ?_)))))
 refine W.sr (WL.l isAgg26 rfl (h.cellB rfl) (WL.v (run_cutH (h := 16) underlying26 sizeOf5 rfl rfl (by omega)) (WL.v (run_lenSlice underlying26 rfl) (WL.m (WL.nil (W.block ?_))))))
 refine W.loop (fun (k : Nat) env w => k ≤ 16 ∧ ∃ (j : Env), env = mkE j [(1, .pointer (some ⟨b1, 0, none⟩)), (2, .pointer (some ⟨b2, 0, none⟩)), (3, .pointer (some ⟨b3, 0, none⟩)), (5, .pointer (some ⟨b5, 0, none⟩)), (7, .pointer (some ⟨b7, 0, none⟩)), (8, .bool false), (33, .slice (some ⟨bb, ob, none⟩) 16 cb), (34, .int .i64 16), (35, .int .i64 (k : Int))] ∧ On W0 (blk b7 [.int .i64 3, .int .i64 0, .int .i64 0, .slice none 0 0, .int .u64 0, .int .u64 0, .int .i64 0, .bool false] 29 :: blk b5 [.int .i64 3, .int .u8 138, .int .u8 0, .bool true, .bool true, .bool false, .bool true, .bool false, .bool false] 81 :: blk b3 [.int .i64 0, .int .i64 0, .int .i64 0, .slice none 0 0, .int .i64 0] 44 :: blk b2 [.int .i64 0, .int .i64 0, .int .i64 0, .slice none 0 0, .int .u64 0, .int .u64 0, .int .i64 0, .bool false] 29 :: blk b1 [.slice (some ⟨bb, ob, none⟩) bs.length cb] 26 :: L) w) (fun k => 16 - k) (0) ?_ ?_
 · exact ⟨by decide, _, mkE_of ⟨rfl, rfl, rfl, rfl, rfl, rfl, rfl, rfl, rfl, trivial⟩, h.to⟩
 clear h
 rintro k env w ⟨hk, j, rfl, h⟩
 refine W.sr (WL.v (run_lss rfl rfl) (WL.nil (W.seq ?_)))
 refine W.condIf rfl (fun c20 => ?_) (fun c20 => ?_)
 ·
  refine W.skip (W.seq ?_)
  have hk16 : k < 16 := by omega
  have ob_ : ∃ c, bs[k]? = some c := ⟨bs[k]'(by omega), List.getElem?_eq_getElem _⟩
  obtain ⟨c, hc⟩ := ob_
  refine W.block (W.sr (WL.m (WL.v (run_indexAddr underlying26 sizeOf5 rfl rfl (by omega) (by omega)) (WL.l isAgg5 rfl ((h.readsTo C).elem (i := k) (vs := [.int .u8 (c.toNat : Int)]) (by omega) (bytes_row hc) 0 _ rfl) (WL.a (WL.a ?_))))))
  refine WL.nil (W.seq (W.sr (WL.v (run_loadB (vs := qv2) h isAgg81 sizeOf81 rfl rfl rfl) (WL.m (WL.e (eff_call call51 (named_ok h)) ?_)))))
  rintro _ w ⟨hv, h⟩
  rw [nb_an k hk16] at hv
  have hcs := Bool.eq_false_or_eq_true (decide (k ≠ 1 ∧ k < 14))
  rcases hcs with hnm | hnm <;> (rw [hnm] at hv; subst hv)
  ·
   refine WL.nil (W.ct (W.exit (W.region (WL.v (run_incN rfl rfl (by omega)) (WL.m (WL.nil ?_))))))
   exact ⟨k + 1, ⟨by omega, _, mkE_of ⟨rfl, rfl, rfl, rfl, rfl, rfl, rfl, rfl, rfl, trivial⟩, h.to⟩, by show 16 - (k + 1) < 16 - k; omega⟩
  have hno := of_decide_eq_false hnm
  have hcd : c = bs.getD k 0 := by rw [List.getD_eq_getElem?_getD, hc]; rfl
  have hc0 : c = 0 := by
    rw [hcd]
    have h3 : k = 1 ∨ k = 14 ∨ k = 15 := by omega
    rcases h3 with e | e | e <;> rw [e]
    · exact hz.1
    · exact hz.2.1
    exact hz.2.2
  subst hc0
  refine WL.nil (W.cs (W.seq (W.sr (WL.m ?_))))
  refine WL.q (run_eql rfl rfl) (fun c44 => ?_) (fun c44 => ?_)
  ·
   refine WL.m (WL.c 6 underlying81 rfl sizeOf4 rfl isAgg4 h rfl (WL.pt (WL.m (WL.m (WL.v (run_eqlF rfl rfl (by decide)) (WL.pt ?_))))))
   refine WL.nil (W.cs (W.region (WL.m (WL.m (WL.m (WL.v (run_neqF rfl rfl (by decide)) ?_))))))
   refine WL.pf (WL.z (W.region (WL.v (run_incN rfl rfl (by omega)) (WL.m (WL.nil ?_)))))
   exact ⟨k + 1, ⟨by omega, _, mkE_of ⟨rfl, rfl, rfl, rfl, rfl, rfl, rfl, rfl, rfl, trivial⟩, h.to⟩, by show 16 - (k + 1) < 16 - k; omega⟩
  refine WL.m (WL.s (WL.s (WL.pf (WL.m (WL.s (WL.s (WL.pf ?_)))))))
  refine WL.nil (W.cs (W.region (WL.m (WL.m (WL.m (WL.v (run_neqF rfl rfl (by decide)) ?_))))))
  refine WL.pf (WL.z (W.region (WL.v (run_incN rfl rfl (by omega)) (WL.m (WL.nil ?_)))))
  exact ⟨k + 1, ⟨by omega, _, mkE_of ⟨rfl, rfl, rfl, rfl, rfl, rfl, rfl, rfl, rfl, trivial⟩, h.to⟩, by show 16 - (k + 1) < 16 - k; omega⟩
 refine W.exit (W.seq (W.seq ?_))
 have ek : k = 16 := by omega
 subst ek
 refine W.region (WL.c 3 underlying81 rfl sizeOf4 rfl isAgg4 h rfl (WL.nil (W.ct (W.sr (WL.l isAgg26 rfl (h.cellB rfl) ?_)))))
 refine WL.e (eff_call call52 (bgetE_ok (p := 2) (n := 8) (bs := bs) (by decide) (by decide) h (Gives.to C))) ?_
 rintro _ w ⟨z, ok64, hz64, rfl, h⟩
 have hzz : z = beV ((bs.drop 2).take 8) := hz64 (by omega)
 subst hzz
 refine WL.m (WL.v (run_extract rfl rfl) (WL.v (run_extract rfl rfl) (WL.a (WL.z (W.sr ?_)))))
 refine WL.m (WL.m (WL.m (WL.v (run_gtrF rfl rfl (by omega)) (WL.pf (WL.z (W.region ?_))))))
 refine WL.m (WL.v (run_convInt64 underlying27 underlying3 rfl (by omega) (by omega)) (WL.f 1 underlying29 rfl sizeOf3 rfl rfl (WL.e (eff_store (v := .int .i64 _) h sizeOf3 rfl rfl rfl rfl rfl) ?_)))
 rintro _ w h
 try simp only [Nat.zero_add, Nat.add_zero, List.set_cons_zero, List.set_cons_succ] at h
 refine WL.nil (W.seq (W.block (W.sr (WL.c 4 underlying81 rfl sizeOf4 rfl isAgg4 h rfl (WL.a ?_)))))
 refine WL.nil (W.ct (W.sr (WL.l isAgg26 rfl (h.cellB rfl) (WL.e (eff_call call52 (bgetE_ok (p := 10) (n := 4) (bs := bs) (by decide) (by decide) h (Gives.to C))) ?_))))
 rintro _ w ⟨y, ok80, hz80, rfl, h⟩
 have hyy : y = beV ((bs.drop 10).take 4) := hz80 (by omega)
 subst hyy
 have hyl : beV ((bs.drop 10).take 4) < 4294967296 := be4_lt _
 refine WL.m (WL.v (run_extract rfl rfl) (WL.v (run_extract rfl rfl) (WL.a (WL.z (W.region (WL.m ?_))))))
 refine WL.v (run_convInt64 underlying27 underlying3 rfl (by omega) (by omega)) (WL.f 2 underlying29 rfl sizeOf3 rfl rfl (WL.e (eff_store (v := .int .i64 _) h sizeOf3 rfl rfl rfl rfl rfl) ?_))
 rintro _ w h
 try simp only [Nat.zero_add, Nat.add_zero, List.set_cons_zero, List.set_cons_succ] at h
 refine WL.nil (W.seq (W.sr (WL.m (WL.nil (W.cs ?_)))))
 refine W.sr (WL.v (run_loadB (vs := qv3) h isAgg29 sizeOf29 rfl rfl rfl) (WL.v (run_buildS (pl := qp0) (out := qv0) underlying44 zeroValue44 (fun w => by kernel_rfl) rfl (trivial) rfl) (WL.e (eff_storeW (vs := qv3) h sizeOf29 rfl rfl rfl rfl rfl) ?_)))
 rintro _ w h
 refine WL.e (eff_storeW (vs := qv0) h sizeOf44 rfl rfl rfl rfl rfl) ?_
 rintro _ w h
 refine WL.z (W.ret (bodyQ.rcctB (v3 := .bool true) h results14 isAgg29 sizeOf29 isAgg44 sizeOf44 rfl rfl rfl rfl rfl rfl rfl ?_))
 exact ⟨rfl, h.to⟩
end Go.Proofs.YtjfmjbmkkpkppaaGreatDoor
namespace Go.Proofs
open Go.Shelf
def Tryz.lays137_ren : Go.Shelf.Ren := ⟨fun | 137 => 161 | 217 => 179 | 266 => 198 | n => n, fun | 9 => 9 | 5 => 5 | 3 => 3 | n => n, fun | n => n⟩
theorem Tryz.lays137 : Go.Proofs.Lays.n137 Tryz.prog Tryz.lays137_ren := {
 mixed := by kernel_rfl
 f137 := func161.trans (congrArg some (by kernel_rfl))
 f217 := func179.trans (congrArg some (by kernel_rfl))
 f266 := func198.trans (congrArg some (by kernel_rfl))
 t3 := underlying3
 a3 := isAgg3
 z3 := sizeOf3
 v3 := zeroValue3
 t5 := underlying5
 a5 := isAgg5
 z5 := sizeOf5
 v5 := zeroValue5
 t9 := underlying9
 a9 := isAgg9
 z9 := sizeOf9
 v9 := zeroValue9 }
open Go.RowKit in
theorem Tryz.strings_IndexByte (s : ByteArray) (c : Int) (w : World) :
   Calls Tryz.prog 161 #[.string s, .int .u8 c] w fun e w' => e = .returned (.int .i64 (Lib.indexByte s.data.toList c.toNat.toUInt8)) ∧ w' = w := Any.strings_IndexByte Tryz.lays137 s c w
def Tryz.lays103_ren : Go.Shelf.Ren := ⟨fun | 103 => 204 | 210 => 217 | 206 => 224 | n => n, fun | 9 => 9 | 4 => 4 | 24 => 265 | 3 => 3 | n => n, fun | n => n⟩
theorem Tryz.lays103 : Go.Proofs.Lays.n103 Tryz.prog Tryz.lays103_ren := {
 mixed := by kernel_rfl
 f103 := func204.trans (congrArg some (by kernel_rfl))
 f206 := func224.trans (congrArg some (by kernel_rfl))
 f210 := func217.trans (congrArg some (by kernel_rfl))
 t3 := underlying3
 a3 := isAgg3
 z3 := sizeOf3
 v3 := zeroValue3
 t4 := underlying4
 a4 := isAgg4
 z4 := sizeOf4
 v4 := zeroValue4
 t9 := underlying9
 a9 := isAgg9
 z9 := sizeOf9
 v9 := zeroValue9
 t24 := underlying265
 a24 := isAgg265
 z24 := sizeOf265
 v24 := zeroValue265 }
open Go.RowKit in
theorem Tryz.strings_CutPrefix (s p : ByteArray) (w : World) :
   Calls Tryz.prog 204 #[.string s, .string p] w fun e w' => e = .returned (.tuple #[.string ⟨(Lib.trimPrefix s.data.toList p.data.toList).toArray⟩, .bool (Lib.hasPrefix s.data.toList p.data.toList)]) ∧ w' = w := Any.strings_CutPrefix Tryz.lays103 s p w
def Tryz.laysM171_ren : Go.Shelf.Ren := ⟨fun | 171 => 142 | 243 => 163 | 246 => 180 | 283 => 199 | 284 => 200 | 285 => 201 | 286 => 202 | 129 => 210 | 317 => 209 | 318 => 211 | 319 => 212 | 320 => 213 | 337 => 221 | 338 => 222 | n => n, fun | 3 => 3 | 9 => 9 | 2 => 2 | 4 => 4 | 171 => 272 | 0 => 0 | 53 => 27 | 37 => 26 | 5 => 5 | 173 => 275 | 212 => 284 | 51 => 24 | 20 => 20 | 213 => 285 | 46 => 144 | 232 => 299 | 233 => 300 | n => n, fun | 17 => 1 | 18 => 2 | 19 => 3 | n => n⟩
theorem Tryz.laysM171 : Go.Proofs.LaysM.n171 Tryz.prog Tryz.laysM171_ren := {
 mixed := by kernel_rfl
 f129 := func210.trans (congrArg some (by kernel_rfl))
 f171 := func142.trans (congrArg some (by kernel_rfl))
 f243 := func163.trans (congrArg some (by kernel_rfl))
 f246 := func180.trans (congrArg some (by kernel_rfl))
 f283 := func199.trans (congrArg some (by kernel_rfl))
 f284 := func200.trans (congrArg some (by kernel_rfl))
 f285 := func201.trans (congrArg some (by kernel_rfl))
 f286 := func202.trans (congrArg some (by kernel_rfl))
 f317 := func209.trans (congrArg some (by kernel_rfl))
 f318 := func211.trans (congrArg some (by kernel_rfl))
 f319 := func212.trans (congrArg some (by kernel_rfl))
 f320 := func213.trans (congrArg some (by kernel_rfl))
 f337 := func221.trans (congrArg some (by kernel_rfl))
 f338 := func222.trans (congrArg some (by kernel_rfl))
 t0 := underlying0
 a0 := isAgg0
 z0 := sizeOf0
 v0 := zeroValue0
 t2 := underlying2
 a2 := isAgg2
 z2 := sizeOf2
 v2 := zeroValue2
 t3 := underlying3
 a3 := isAgg3
 z3 := sizeOf3
 v3 := zeroValue3
 t4 := underlying4
 a4 := isAgg4
 z4 := sizeOf4
 v4 := zeroValue4
 t5 := underlying5
 a5 := isAgg5
 z5 := sizeOf5
 v5 := zeroValue5
 t9 := underlying9
 a9 := isAgg9
 z9 := sizeOf9
 v9 := zeroValue9
 t20 := underlying20
 a20 := isAgg20
 z20 := sizeOf20
 v20 := zeroValue20
 t37 := underlying26
 a37 := isAgg26
 z37 := sizeOf26
 v37 := zeroValue26
 t46 := underlying144
 a46 := isAgg144
 z46 := sizeOf144
 v46 := zeroValue144
 t51 := underlying24
 a51 := isAgg24
 z51 := sizeOf24
 v51 := zeroValue24
 t53 := underlying27
 a53 := isAgg27
 z53 := sizeOf27
 v53 := zeroValue27
 t171 := underlying272
 a171 := isAgg272
 z171 := sizeOf272
 v171 := zeroValue272
 t173 := underlying275
 a173 := isAgg275
 z173 := sizeOf275
 v173 := zeroValue275
 t212 := underlying284
 a212 := isAgg284
 z212 := sizeOf284
 v212 := zeroValue284
 t213 := underlying285
 a213 := isAgg285
 z213 := sizeOf285
 t232 := underlying299
 a232 := isAgg299
 z232 := sizeOf299
 v232 := zeroValue299
 t233 := underlying300
 a233 := isAgg300
 z233 := sizeOf300
 v233 := zeroValue300
 g17 := by kernel_rfl
 g18 := by kernel_rfl
 g19 := by kernel_rfl
 i0 := by kernel_rfl
 i2 := by kernel_rfl
 i3 := by kernel_rfl
 i4 := by kernel_rfl
 i5 := by kernel_rfl
 i9 := by kernel_rfl
 i20 := by kernel_rfl
 i37 := by kernel_rfl
 i46 := by kernel_rfl
 i51 := by kernel_rfl
 i53 := by kernel_rfl
 i171 := by kernel_rfl
 i173 := by kernel_rfl
 i212 := by kernel_rfl
 i232 := by kernel_rfl
 i233 := by kernel_rfl
 m17 := by kernel_rfl
 m18 := by kernel_rfl
 m19 := by kernel_rfl }
open Go.RowKit Go.Sort Go.Lib in
theorem Tryz.strconv_Itoa (n : Int) (h0 : -9223372036854775808 ≤ n) (h1 : n ≤ 9223372036854775807) (w : World) (htab : Lib.TabIs Tryz.prog w "internal/strconv.uint64pow10" .u64 Lib.pow10Tab) :
   Calls Tryz.prog 142 #[.int .i64 n] w fun e w' => e = .returned (.string ⟨(Lib.itoa n).toArray⟩) ∧ ∃ k os, w' = grow (w.drewN k) os := Any.strconv_Itoa Tryz.laysM171 n h0 h1 w htab
def Tryz.laysC174_ren : Go.Shelf.Ren := ⟨fun | 174 => 208 | 247 => 219 | 245 => 220 | 287 => 228 | 279 => 229 | 280 => 230 | 281 => 231 | 282 => 232 | 321 => 236 | 322 => 237 | 316 => 238 | 171 => 142 | 205 => 239 | 243 => 163 | 246 => 180 | 283 => 199 | 284 => 200 | 285 => 201 | 286 => 202 | 129 => 210 | 317 => 209 | 318 => 211 | 319 => 212 | 320 => 213 | 337 => 221 | 338 => 222 | n => n, fun | 9 => 9 | 3 => 3 | 2 => 2 | 75 => 280 | 85 => 281 | 4 => 4 | 167 => 293 | 5 => 5 | 53 => 27 | 175 => 294 | 46 => 144 | 168 => 296 | 37 => 26 | 0 => 0 | 210 => 307 | 21 => 21 | 127 => 309 | 145 => 312 | 143 => 310 | 171 => 272 | 173 => 275 | 212 => 284 | 51 => 24 | 20 => 20 | 213 => 285 | 232 => 299 | 233 => 300 | 80 => 317 | n => n, fun | 15 => 4 | 16 => 5 | 17 => 1 | 18 => 2 | 19 => 3 | n => n⟩
theorem Tryz.laysC174 : Go.Proofs.LaysC.n174 Tryz.prog Tryz.laysC174_ren := {
 mixed := by kernel_rfl
 f129 := func210.trans (congrArg some (by kernel_rfl))
 f171 := func142.trans (congrArg some (by kernel_rfl))
 f174 := func208.trans (congrArg some (by kernel_rfl))
 f205 := func239.trans (congrArg some (by kernel_rfl))
 f243 := func163.trans (congrArg some (by kernel_rfl))
 f245 := func220.trans (congrArg some (by kernel_rfl))
 f246 := func180.trans (congrArg some (by kernel_rfl))
 f247 := func219.trans (congrArg some (by kernel_rfl))
 f279 := func229.trans (congrArg some (by kernel_rfl))
 f280 := func230.trans (congrArg some (by kernel_rfl))
 f281 := func231.trans (congrArg some (by kernel_rfl))
 f282 := func232.trans (congrArg some (by kernel_rfl))
 f283 := func199.trans (congrArg some (by kernel_rfl))
 f284 := func200.trans (congrArg some (by kernel_rfl))
 f285 := func201.trans (congrArg some (by kernel_rfl))
 f286 := func202.trans (congrArg some (by kernel_rfl))
 f287 := func228.trans (congrArg some (by kernel_rfl))
 f316 := func238.trans (congrArg some (by kernel_rfl))
 f317 := func209.trans (congrArg some (by kernel_rfl))
 f318 := func211.trans (congrArg some (by kernel_rfl))
 f319 := func212.trans (congrArg some (by kernel_rfl))
 f320 := func213.trans (congrArg some (by kernel_rfl))
 f321 := func236.trans (congrArg some (by kernel_rfl))
 f322 := func237.trans (congrArg some (by kernel_rfl))
 f337 := func221.trans (congrArg some (by kernel_rfl))
 f338 := func222.trans (congrArg some (by kernel_rfl))
 t0 := underlying0
 a0 := isAgg0
 z0 := sizeOf0
 v0 := zeroValue0
 t2 := underlying2
 a2 := isAgg2
 z2 := sizeOf2
 v2 := zeroValue2
 t3 := underlying3
 a3 := isAgg3
 z3 := sizeOf3
 v3 := zeroValue3
 t4 := underlying4
 a4 := isAgg4
 z4 := sizeOf4
 v4 := zeroValue4
 t5 := underlying5
 a5 := isAgg5
 z5 := sizeOf5
 v5 := zeroValue5
 t9 := underlying9
 a9 := isAgg9
 z9 := sizeOf9
 v9 := zeroValue9
 t20 := underlying20
 a20 := isAgg20
 z20 := sizeOf20
 v20 := zeroValue20
 t21 := underlying21
 a21 := isAgg21
 z21 := sizeOf21
 v21 := zeroValue21
 t37 := underlying26
 a37 := isAgg26
 z37 := sizeOf26
 v37 := zeroValue26
 t46 := underlying144
 a46 := isAgg144
 z46 := sizeOf144
 v46 := zeroValue144
 t51 := underlying24
 a51 := isAgg24
 z51 := sizeOf24
 v51 := zeroValue24
 t53 := underlying27
 a53 := isAgg27
 z53 := sizeOf27
 v53 := zeroValue27
 t75 := underlying280
 a75 := isAgg280
 z75 := sizeOf280
 v75 := zeroValue280
 t85 := underlying281
 a85 := isAgg281
 z85 := sizeOf281
 v85 := zeroValue281
 t127 := underlying309
 a127 := isAgg309
 z127 := sizeOf309
 v127 := zeroValue309
 t143 := underlying310
 a143 := isAgg310
 z143 := sizeOf310
 v143 := zeroValue310
 t145 := underlying312
 a145 := isAgg312
 z145 := sizeOf312
 v145 := zeroValue312
 t167 := underlying293
 a167 := isAgg293
 z167 := sizeOf293
 v167 := zeroValue293
 t168 := underlying296
 a168 := isAgg296
 z168 := sizeOf296
 v168 := zeroValue296
 t171 := underlying272
 a171 := isAgg272
 z171 := sizeOf272
 v171 := zeroValue272
 t173 := underlying275
 a173 := isAgg275
 z173 := sizeOf275
 v173 := zeroValue275
 t175 := underlying294
 a175 := isAgg294
 z175 := sizeOf294
 v175 := zeroValue294
 t210 := underlying307
 a210 := isAgg307
 z210 := sizeOf307
 v210 := zeroValue307
 t212 := underlying284
 a212 := isAgg284
 z212 := sizeOf284
 v212 := zeroValue284
 t213 := underlying285
 a213 := isAgg285
 z213 := sizeOf285
 t232 := underlying299
 a232 := isAgg299
 z232 := sizeOf299
 v232 := zeroValue299
 t233 := underlying300
 a233 := isAgg300
 z233 := sizeOf300
 v233 := zeroValue300
 g15 := by kernel_rfl
 g16 := by kernel_rfl
 g17 := by kernel_rfl
 g18 := by kernel_rfl
 g19 := by kernel_rfl
 t80 := underlying317
 a80 := isAgg317
 z80 := sizeOf317
 v80 := zeroValue317
 i0 := by kernel_rfl
 i2 := by kernel_rfl
 i3 := by kernel_rfl
 i4 := by kernel_rfl
 i5 := by kernel_rfl
 i9 := by kernel_rfl
 i20 := by kernel_rfl
 i21 := by kernel_rfl
 i37 := by kernel_rfl
 i46 := by kernel_rfl
 i51 := by kernel_rfl
 i53 := by kernel_rfl
 i75 := by kernel_rfl
 i80 := by kernel_rfl
 i85 := by kernel_rfl
 i127 := by kernel_rfl
 i143 := by kernel_rfl
 i145 := by kernel_rfl
 i167 := by kernel_rfl
 i168 := by kernel_rfl
 i171 := by kernel_rfl
 i173 := by kernel_rfl
 i175 := by kernel_rfl
 i210 := by kernel_rfl
 i212 := by kernel_rfl
 i232 := by kernel_rfl
 i233 := by kernel_rfl
 m15 := by kernel_rfl
 m16 := by kernel_rfl
 m17 := by kernel_rfl
 m18 := by kernel_rfl
 m19 := by kernel_rfl
 c0 := by kernel_rfl
 c2 := by kernel_rfl
 c3 := by kernel_rfl
 c4 := by kernel_rfl
 c5 := by kernel_rfl
 c9 := by kernel_rfl
 c20 := by kernel_rfl
 c21 := by kernel_rfl
 c37 := by kernel_rfl
 c46 := by kernel_rfl
 c51 := by kernel_rfl
 c53 := by kernel_rfl
 c75 := by kernel_rfl
 c80 := by kernel_rfl
 c85 := by kernel_rfl
 c127 := by kernel_rfl
 c143 := by kernel_rfl
 c145 := by kernel_rfl
 c167 := by kernel_rfl
 c168 := by kernel_rfl
 c171 := by kernel_rfl
 c173 := by kernel_rfl
 c175 := by kernel_rfl
 c210 := by kernel_rfl
 c212 := by kernel_rfl
 c213 := by kernel_rfl
 c232 := by kernel_rfl
 c233 := by kernel_rfl }
open Go.RowKit in
theorem Tryz.strconv_ParseInt_10_at64_ok (s : ByteArray) (hmax : s.size ≤ 9223372036854775806) (v : Int) (h : Lib.parseIntB 64 s.data.toList = .ok v) (w : World) :
   Calls Tryz.prog 208 #[.string s, .int .i64 10, .int .i64 64] w fun e w' => e = .returned (.tuple #[.int .i64 v, .nilIface]) ∧ (w' = w ∨ ∃ t, w' = Lib.bytesWorld w 5 t) := Any.strconv_ParseInt_10_at64_ok Tryz.laysC174 s hmax v h w
def Tryz.lays145_ren : Go.Shelf.Ren := ⟨fun | 145 => 171 | 220 => 183 | 219 => 203 | 217 => 179 | 225 => 214 | 224 => 215 | 267 => 216 | 266 => 198 | 314 => 223 | n => n, fun | 9 => 9 | 4 => 4 | 59 => 244 | 3 => 3 | 5 => 5 | 46 => 144 | 146 => 289 | 51 => 24 | n => n, fun | 1 => 0 | n => n⟩
theorem Tryz.lays145 : Go.Proofs.Lays.n145 Tryz.prog Tryz.lays145_ren := {
 mixed := by kernel_rfl
 f145 := func171.trans (congrArg some (by kernel_rfl))
 f217 := func179.trans (congrArg some (by kernel_rfl))
 f219 := func203.trans (congrArg some (by kernel_rfl))
 f220 := func183.trans (congrArg some (by kernel_rfl))
 f224 := func215.trans (congrArg some (by kernel_rfl))
 f225 := func214.trans (congrArg some (by kernel_rfl))
 f266 := func198.trans (congrArg some (by kernel_rfl))
 f267 := func216.trans (congrArg some (by kernel_rfl))
 f314 := func223.trans (congrArg some (by kernel_rfl))
 t3 := underlying3
 a3 := isAgg3
 z3 := sizeOf3
 v3 := zeroValue3
 t4 := underlying4
 a4 := isAgg4
 z4 := sizeOf4
 v4 := zeroValue4
 t5 := underlying5
 a5 := isAgg5
 z5 := sizeOf5
 v5 := zeroValue5
 t9 := underlying9
 a9 := isAgg9
 z9 := sizeOf9
 v9 := zeroValue9
 t46 := underlying144
 a46 := isAgg144
 z46 := sizeOf144
 v46 := zeroValue144
 t51 := underlying24
 a51 := isAgg24
 z51 := sizeOf24
 v51 := zeroValue24
 t59 := underlying244
 a59 := isAgg244
 z59 := sizeOf244
 v59 := zeroValue244
 t146 := underlying289
 a146 := isAgg289
 z146 := sizeOf289
 v146 := zeroValue289
 g1 := by kernel_rfl }
open Go.RowKit Go.Lib in
theorem Tryz.strings_Cut (s sep : ByteArray) (m : Int) (w : World) (hs : s.size < 4294967281) (hm : w.cell? ⟨0, 0, none⟩ = some (.int .i64 m)) :
   Calls Tryz.prog 171 #[.string s, .string sep] w fun e w' => e = .returned (.tuple #[.string ⟨(Lib.cut s.data.toList sep.data.toList).1.toArray⟩, .string ⟨(Lib.cut s.data.toList sep.data.toList).2.1.toArray⟩, .bool (Lib.cut s.data.toList sep.data.toList).2.2]) ∧ ∃ n, w' = w.drewN n := Any.strings_Cut Tryz.lays145 s sep m w hs hm
def Tryz.lays146_ren : Go.Shelf.Ren := ⟨fun | 146 => 206 | 221 => 218 | 268 => 225 | 138 => 226 | 143 => 227 | 195 => 233 | 197 => 234 | 218 => 235 | 219 => 203 | 260 => 240 | 217 => 179 | 225 => 214 | 224 => 215 | 267 => 216 | 266 => 198 | 314 => 223 | n => n, fun | 9 => 9 | 31 => 131 | 3 => 3 | 4 => 4 | 0 => 0 | 105 => 302 | 21 => 21 | 5 => 5 | 46 => 144 | 119 => 313 | 139 => 316 | 138 => 315 | 146 => 289 | 51 => 24 | n => n, fun | 1 => 0 | 3 => 6 | 4 => 7 | n => n⟩
theorem Tryz.lays146 : Go.Proofs.Lays.n146 Tryz.prog Tryz.lays146_ren := {
 mixed := by kernel_rfl
 f138 := func226.trans (congrArg some (by kernel_rfl))
 f143 := func227.trans (congrArg some (by kernel_rfl))
 f146 := func206.trans (congrArg some (by kernel_rfl))
 f195 := func233.trans (congrArg some (by kernel_rfl))
 f197 := func234.trans (congrArg some (by kernel_rfl))
 f217 := func179.trans (congrArg some (by kernel_rfl))
 f218 := func235.trans (congrArg some (by kernel_rfl))
 f219 := func203.trans (congrArg some (by kernel_rfl))
 f221 := func218.trans (congrArg some (by kernel_rfl))
 f224 := func215.trans (congrArg some (by kernel_rfl))
 f225 := func214.trans (congrArg some (by kernel_rfl))
 f260 := func240.trans (congrArg some (by kernel_rfl))
 f266 := func198.trans (congrArg some (by kernel_rfl))
 f267 := func216.trans (congrArg some (by kernel_rfl))
 f268 := func225.trans (congrArg some (by kernel_rfl))
 f314 := func223.trans (congrArg some (by kernel_rfl))
 t0 := underlying0
 a0 := isAgg0
 z0 := sizeOf0
 v0 := zeroValue0
 t3 := underlying3
 a3 := isAgg3
 z3 := sizeOf3
 v3 := zeroValue3
 t4 := underlying4
 a4 := isAgg4
 z4 := sizeOf4
 v4 := zeroValue4
 t5 := underlying5
 a5 := isAgg5
 z5 := sizeOf5
 v5 := zeroValue5
 t9 := underlying9
 a9 := isAgg9
 z9 := sizeOf9
 v9 := zeroValue9
 t21 := underlying21
 a21 := isAgg21
 z21 := sizeOf21
 v21 := zeroValue21
 t31 := underlying131
 a31 := isAgg131
 z31 := sizeOf131
 v31 := zeroValue131
 t46 := underlying144
 a46 := isAgg144
 z46 := sizeOf144
 v46 := zeroValue144
 t51 := underlying24
 a51 := isAgg24
 z51 := sizeOf24
 v51 := zeroValue24
 t105 := underlying302
 a105 := isAgg302
 z105 := sizeOf302
 v105 := zeroValue302
 t119 := underlying313
 a119 := isAgg313
 z119 := sizeOf313
 t138 := underlying315
 a138 := isAgg315
 z138 := sizeOf315
 v138 := zeroValue315
 t139 := underlying316
 a139 := isAgg316
 z139 := sizeOf316
 v139 := zeroValue316
 t146 := underlying289
 a146 := isAgg289
 z146 := sizeOf289
 v146 := zeroValue289
 g1 := by kernel_rfl
 g3 := by kernel_rfl
 g4 := by kernel_rfl }
open Go.RowKit Go.Lib in
theorem Tryz.strings_Split (s sep : ByteArray) (m : Int) (w : World) (hs : s.size < 4294967281) (hm : w.cell? ⟨0, 0, none⟩ = some (.int .i64 m)) (h1 : 1 ≤ sep.size) :
   Calls Tryz.prog 206 #[.string s, .string sep] w fun e w' =>
     e = .returned (.slice (some ⟨w.heap.size, 0, none⟩) (Lib.countB s sep + 1) (Lib.countB s sep + 1)) ∧ w' = w.alloc (.cells ((Lib.splitB sep 0 (Lib.countB s sep) s).map Value.string).toArray 9) := Any.strings_Split Tryz.lays146 (by kernel_rfl) s sep m w hs hm h1
def Tryz.lays110_ren : Go.Shelf.Ren := ⟨fun | 110 => 174 | 109 => 194 | n => n, fun | 31 => 131 | 9 => 9 | 4 => 4 | 3 => 3 | 0 => 0 | n => n, fun | n => n⟩
theorem Tryz.lays110 : Go.Proofs.Lays.n110 Tryz.prog Tryz.lays110_ren := {
 mixed := by kernel_rfl
 f109 := func194.trans (congrArg some (by kernel_rfl))
 f110 := func174.trans (congrArg some (by kernel_rfl))
 t0 := underlying0
 a0 := isAgg0
 z0 := sizeOf0
 v0 := zeroValue0
 t3 := underlying3
 a3 := isAgg3
 z3 := sizeOf3
 v3 := zeroValue3
 t4 := underlying4
 a4 := isAgg4
 z4 := sizeOf4
 v4 := zeroValue4
 t9 := underlying9
 a9 := isAgg9
 z9 := sizeOf9
 v9 := zeroValue9
 t31 := underlying131
 a31 := isAgg131
 z31 := sizeOf131
 v31 := zeroValue131 }
open Go.Lib in
theorem Tryz.slices_Contains_string (b off n c : Nat) (zs : List ByteArray) (x : ByteArray) (w : World) (hz : n ≤ zs.length) (hbig : n ≤ 9223372036854775807) (hc : ∀ j, j < zs.length → w.cell? ⟨b, off + j, none⟩ = some (.string (zs.getD j ByteArray.empty))) :
   Calls Tryz.prog 174 #[.slice (some ⟨b, off, none⟩) n c, .string x] w fun e w' => e = .returned (.bool (Lib.containsS (zs.take n) x)) ∧ w' = w := Any.slices_Contains_string Tryz.lays110 b off n c zs x w hz hbig hc
end Go.Proofs
namespace Go.Sl
open Go
theorem On.drewN {W0 w : World} {L : List HProp} (H : On W0 L w) (n : Nat) : On W0 L (w.drewN n) := ⟨H.os, H.output, H.tape, H.size, H.sat⟩
theorem On.growL {W0 : World} {L : List HProp} : ∀ (os : List Obj) (w : World), On W0 L w → On W0 L (Go.Sort.grow w os.toArray)
 | [], w, H => by
   have e : Go.Sort.grow w ([] : List Obj).toArray = w := by unfold Go.Sort.grow; simp
   rw [e]; exact H
 | o :: os, w, H => by
   have h2 := On.growL os (w.alloc o) (H.alloc o).tail
   have e : Go.Sort.grow (w.alloc o) os.toArray = Go.Sort.grow w (o :: os).toArray := by
     unfold Go.Sort.grow
     have e1 : (w.alloc o).heap ++ os.toArray = w.heap ++ (o :: os).toArray := by
       show (w.heap.push o) ++ os.toArray = _
       apply Array.toList_inj.1
       simp
     rw [e1]; rfl
   rw [e] at h2; exact h2
theorem On.grow {W0 w : World} {L : List HProp} (H : On W0 L w) (os : Array Obj) : On W0 L (Go.Sort.grow w os) := by
 have h := On.growL os.toList w H
 rwa [Array.toArray_toList] at h
end Go.Sl
namespace Go.Proofs.YtjfmjbmkkpkppaaGreatDoor
open Go.Proofs.Tryz
open Go Go.Sl Go.Sl.BitM Go.Sl.SpM Go.Sl.RsM Go.Sl.ByM Go.Sl.UnM Go.Sl.TpM
set_option maxHeartbeats 1000000
set_option maxRecDepth 8000
variable {W0 w : World} {L F : List HProp}
theorem inside_ok {c lo hi : UInt8} (h : On W0 L w) : Calls Tryz.prog 160 #[.int .u8 (c.toNat : Int), .int .u8 (lo.toNat : Int), .int .u8 (hi.toNat : Int)] w (Ret fun v w' => v = .bool (inB c lo hi) ∧ On W0 L w') := by
 refine enter func160 rfl ntmps160 rfl (W.sr (WL.z (W.sr (WL.m ?_))))
 refine WL.m ?_
 refine WL.q (run_geq rfl rfl) (fun c9 => ?_) (fun c9 => ?_)
 ·
  refine WL.m (WL.m (WL.m (WL.v (run_leq rfl rfl) (WL.pt (WL.z (W.ret ?_))))))
  refine bodyQ.r1 (v := .bool _) results160 rfl ?_
  have e : inB c lo hi = decide (((c.toNat : Nat) : Int) ≤ (hi.toNat : Int)) := by unfold inB; rw [decide_eq_true (show lo.toNat ≤ c.toNat by omega), Bool.true_and]; exact decide_eq_decide.2 (by omega)
  rw [e]
  exact ⟨rfl, h⟩
 refine WL.m (WL.s (WL.s (WL.s (WL.pf (WL.z (W.ret ?_))))))
 refine bodyQ.r1 (v := .bool _) results160 rfl ?_
 have e : inB c lo hi = false := by unfold inB; rw [decide_eq_false (show ¬ lo.toNat ≤ c.toNat by omega), Bool.false_and]
 rw [e]
 exact ⟨rfl, h⟩
theorem ixb_ok {s : List UInt8} {c : UInt8} (h : On W0 L w) : Calls Tryz.prog 161 #[.string ⟨s.toArray⟩, .int .u8 (c.toNat : Int)] w (Ret fun v w' => v = .int .i64 (Lib.indexByte s c) ∧ On W0 L w') :=
 (Go.Proofs.Tryz.strings_IndexByte ⟨s.toArray⟩ (c.toNat : Int) w).mono fun e w' he => by
   obtain ⟨rfl, rfl⟩ := he
   refine ⟨_, rfl, ?_, h⟩
   have e1 : (((c.toNat : Nat) : Int).toNat).toUInt8 = c := by simp
   rw [e1]
theorem ba_get (s : List UInt8) (k : Nat) : (⟨s.toArray⟩ : ByteArray)[k]? = s[k]? := by
 by_cases hk : k < s.length
 · rw [getElem?_pos s k hk, getElem?_pos (⟨s.toArray⟩ : ByteArray) k (by show k < s.toArray.size; simpa using hk)]; rfl
 rw [getElem?_neg s k hk, getElem?_neg (⟨s.toArray⟩ : ByteArray) k (by show ¬ k < s.toArray.size; simpa using hk)]
theorem sign_ok {c : UInt8} (h : On W0 L w) : Calls Tryz.prog 159 #[.int .u8 (c.toNat : Int)] w (Ret fun v w' => v = .bool (signB c) ∧ On W0 L w') := by
 refine enter func159 rfl ntmps159 rfl (W.sr (WL.z (W.sr (WL.m ?_))))
 refine WL.e (eff_call call160 (inside_ok (c := c) (lo := 65) (hi := 90) h)) ?_
 rintro _ w ⟨rfl, h⟩
 refine WL.boolB run_move rfl rfl (fun c5 => ?_) (fun c5 => ?_)
 ·
  refine WL.s (WL.s (WL.pt (WL.m (WL.s (WL.s (WL.pt (WL.m ?_)))))))
  refine WL.s (WL.s (WL.s (WL.pt (WL.z (W.ret (bodyQ.r1 (v := .bool _) results159 rfl ?_))))))
  have e : signB c = true := by unfold signB; rw [c5]; rfl
  rw [e]
  exact ⟨rfl, h⟩
 refine WL.m (WL.e (eff_call call160 (inside_ok (c := c) (lo := 97) (hi := 122) h)) ?_)
 rintro _ w ⟨rfl, h⟩
 refine WL.boolB (run_pickF rfl) rfl rfl (fun c8 => ?_) (fun c8 => ?_)
 ·
  refine WL.m (WL.s (WL.s (WL.pt (WL.m (WL.s (WL.s (WL.s ?_)))))))
  refine WL.pt (WL.z (W.ret (bodyQ.r1 (v := .bool _) results159 rfl ?_)))
  have e : signB c = true := by unfold signB; rw [c5, c8]; rfl
  rw [e]
  exact ⟨rfl, h⟩
 refine WL.m (WL.m (WL.e (eff_call call160 (inside_ok (c := c) (lo := 48) (hi := 57) h)) ?_))
 rintro _ w ⟨rfl, h⟩
 refine WL.boolB (run_pickF rfl) rfl rfl (fun c12 => ?_) (fun c12 => ?_)
 ·
  refine WL.m (WL.s (WL.s (WL.s (WL.pt (WL.z (W.ret ?_))))))
  refine bodyQ.r1 (v := .bool _) results159 rfl ?_
  have e : signB c = true := by unfold signB; rw [c5, c8, c12]; rfl
  rw [e]
  exact ⟨rfl, h⟩
 refine WL.m (WL.m (WL.e (eff_call call161 (ixb_ok (s := [46, 45, 43, 64, 95]) (c := c) h)) ?_))
 rintro _ w ⟨rfl, h⟩
 refine WL.v (run_geq rfl rfl) (WL.pf (WL.z (W.ret (bodyQ.r1 (v := .bool _) results159 rfl ?_))))
 have e : signB c = decide (0 ≤ Go.Lib.indexByte [46, 45, 43, 64, 95] c) := by unfold signB; rw [c5, c8, c12]; rfl
 rw [e]
 exact ⟨rfl, h⟩
theorem of_ok {s : List UInt8} {f : FuncId} {caps : Array Value} {p : UInt8 → Bool} (hs : s.length ≤ 1000000) (h : On W0 L w) (hf : ∀ args w, (callFunc f args).run Tryz.prog w = .ok (.enter f args) w) (hg : ∀ (c : UInt8) (w : World), On W0 L w → Calls Tryz.prog f (#[.int .u8 (c.toNat : Int)] ++ caps) w (Ret fun v w' => v = .bool (p c) ∧ On W0 L w')) : Calls Tryz.prog 162 #[.string ⟨s.toArray⟩, .func (.func f) #[] caps] w (Ret fun v w' => v = .bool (s.all p) ∧ On W0 L w') := by
 refine enter func162 rfl ntmps162 rfl (W.sr (WL.z (W.seq (W.sr ?_))))
 refine WL.m (WL.v (run_lenStr underlying9 rfl) (WL.m (WL.nil (W.block ?_))))
 refine W.loop (fun (k : Nat) env w => (k ≤ s.length ∧ (s.take k).all p = true) ∧ ∃ (j : Env), env = mkE j [(0, .string ⟨s.toArray⟩), (1, .func (.func f) #[] caps), (7, .int .i64 (s.length : Int)), (8, .int .i64 (k : Int))] ∧ On W0 L w) (fun k => s.length - k) (0) ?_ ?_
 · exact ⟨⟨Nat.zero_le _, rfl⟩, _, mkE_of ⟨rfl, rfl, rfl, rfl, trivial⟩, h⟩
 rintro k env w ⟨⟨hk, hal⟩, j, rfl, h⟩
 refine W.sr (WL.v (run_lss rfl rfl) (WL.nil (W.seq ?_)))
 refine W.condIf rfl (fun c5 => ?_) (fun c5 => ?_)
 ·
  refine W.skip (W.seq ?_)
  have ob_ : ∃ c, s[k]? = some c := ⟨s[k]'(by omega), List.getElem?_eq_getElem _⟩
  obtain ⟨c, hc⟩ := ob_
  refine W.block (W.sr (WL.m (WL.z (W.sr ?_))))
  refine WL.m (WL.m (WL.m (WL.v (run_indexStr underlying9 rfl rfl ((ba_get s k).trans hc)) (WL.e (eff_callV (xs := [_]) rfl hf (hg c _ h)) ?_))))
  rintro _ w ⟨rfl, h⟩
  refine WL.v (run_not rfl) (WL.nil ?_)
  refine W.condB rfl (fun c11 => ?_) (fun c11 => ?_)
  ·
   refine W.sr (WL.z (W.ret (bodyQ.r1 (v := .bool _) results162 rfl ?_)))
   have e : s.all p = false := by rw [List.all_eq_false]; exact ⟨c, List.mem_of_getElem? hc, by simpa using c11⟩
   rw [e]
   exact ⟨rfl, h⟩
  refine W.skip (W.region (WL.v (run_incN rfl rfl (by omega)) (WL.m (WL.nil ?_))))
  have hp : p c = true := by simpa using c11
  exact ⟨k + 1, ⟨⟨by omega, by rw [Sl.take_snoc hc, List.all_append, hal]; simp [hp]⟩, _, mkE_of ⟨rfl, rfl, rfl, rfl, trivial⟩, h⟩, by show s.length - (k + 1) < s.length - k; omega⟩
 refine W.exit (W.sr (WL.z (W.ret (bodyQ.r1 (v := .bool _) results162 rfl ?_))))
 have e : s.all p = true := by rw [List.take_of_length_le (by omega)] at hal; exact hal
 rw [e]
 exact ⟨rfl, h⟩
end Go.Proofs.YtjfmjbmkkpkppaaGreatDoor
namespace Go.Sl
open Go
abbrev KT := (List UInt8) × Value × Nat
def keyT (p : List UInt8) : Value := .string ⟨p.toArray⟩
def entT (x : KT) : MapEntry := { key := keyT x.1, val := x.2.1, born := x.2.2 }
def mapOT (kvs : List KT) (ck : Nat) : Obj := .map (kvs.map entT).toArray ck
def fitT (kvs : List KT) (ck : Nat) : Prop := (kvs.map (·.1)).Nodup
def MapT (b : Nat) (kvs : List KT) (ck : Nat) : HProp := fun h => fitT kvs ck ∧ h b = some (mapOT kvs ck)
def lookT (kvs : List KT) (k : List UInt8) : Option Value := (kvs.find? fun x => x.1 == k).map (·.2.1)
def putT (kvs : List KT) (k : List UInt8) (v : Value) (ck : Nat) : List KT := if kvs.any (fun x => x.1 == k) then kvs.map fun x => if x.1 = k then (k, v, x.2.2) else x else kvs ++ [(k, v, ck)]
def clockT (kvs : List KT) (k : List UInt8) (ck : Nat) : Nat := if kvs.any (fun x => x.1 == k) then ck else ck + 1
section
variable {P : Program} {W0 w : World} {L : List HProp} {ρ : Operand → Value} {d : Option Nat} {ty : TypeId} {pos : String} {af : Array Edge} {g : Option (Nat × Bool)} {kt : TypeId}
theorem ba_beq (p q : List UInt8) : ((⟨p.toArray⟩ : ByteArray) == ⟨q.toArray⟩) = (p == q) := by
 show ByteArray.beq ⟨p.toArray⟩ ⟨q.toArray⟩ = _
 unfold ByteArray.beq
 simp
theorem text_check (hk : P.underlying kt = some .string) (e : Bool) (p : List UInt8) : (Instr.checkKey e 10000 kt (keyT p)).run P w = .ok () w := by
 unfold keyT
 rw [show (10000 : Nat) = 9999 + 1 from rfl]
 unfold Instr.checkKey
 simp [run_underlying hk]
theorem text_now (p : List UInt8) : ∀ (kvs : List KT) (i : Nat), Instr.findNow .string (keyT p) (kvs.map entT) i = some ((kvs.findIdx? fun x => x.1 == p).bind fun j => (kvs[j]?).map fun x => (i + j, x.2.1)) := by
 intro kvs
 induction kvs with
 | nil => intro i; rfl
 | cons x kvs ih =>
   intro i
   rw [List.map_cons]
   unfold Instr.findNow
   have hs : Instr.sameNow .string (keyT p) (entT x).key = some (p == x.1) := by
     show some ((⟨p.toArray⟩ : ByteArray) == ⟨x.1.toArray⟩) = _
     rw [ba_beq]
   rw [hs]
   by_cases h : p = x.1
   · subst h
     simp [List.findIdx?_cons, entT]
   have h1 : (p == x.1) = false := by simpa using h
   have h2 : (x.1 == p) = false := by simpa using fun e => h e.symm
   rw [h1, List.findIdx?_cons, h2]
   simp only [Bool.false_eq_true, if_false]
   rw [ih (i + 1)]
   cases kvs.findIdx? fun x => x.1 == p with
   | none => rfl
   | some j => simp; cases kvs[j]? <;> simp; omega
theorem text_find (hk : P.underlying kt = some .string) (p : List UInt8) (kvs : List KT) : (Instr.findKey kt (keyT p) (kvs.map entT)).run P w = .ok ((kvs.findIdx? fun x => x.1 == p).bind fun j => (kvs[j]?).map fun x => (j, x.2.1)) w := by
 have ha := text_now p kvs 0
 simp only [Nat.zero_add] at ha
 unfold Instr.findKey
 simp only [Sem.run_bind, run_underlying hk, ha, Result.andThen]
 rfl
theorem lookT_idx (kvs : List KT) (k : List UInt8) : lookT kvs k = (kvs.findIdx? fun x => x.1 == k).bind fun j => (kvs[j]?).map (·.2.1) := by
 unfold lookT
 induction kvs with
 | nil => rfl
 | cons x kvs ih =>
   rw [List.find?_cons, List.findIdx?_cons]
   cases h : x.1 == k
   · rw [ih]
     simp only [Bool.false_eq_true, if_false]
     cases kvs.findIdx? fun x => x.1 == k with
     | none => rfl
     | some j => simp
   simp
theorem On.mapTC {b : Nat} {kvs : List KT} {ck : Nat} (H : On W0 (MapT b kvs ck :: L) w) : fitT kvs ck ∧ w.heap[b]? = some (mapOT kvs ck) := by
 obtain ⟨h1, h2, dd, s1, s2, ⟨hf, a⟩, r⟩ := H.sat
 exact ⟨hf, s1 _ _ a⟩
theorem On.mapTOpen {b : Nat} {kvs : List KT} {ck : Nat} (H : On W0 (MapT b kvs ck :: L) w) : fitT kvs ck ∧ On W0 (pts b (mapOT kvs ck) :: L) w := by
 obtain ⟨h1, h2, dd, s1, s2, ⟨hf, a⟩, r⟩ := H.sat
 exact ⟨hf, H.os, H.output, H.tape, H.size, h1, h2, dd, s1, s2, a, r⟩
theorem On.mapTClose {b : Nat} {kvs : List KT} {ck : Nat} (hf : fitT kvs ck) (H : On W0 (pts b (mapOT kvs ck) :: L) w) : On W0 (MapT b kvs ck :: L) w := H.head fun h a => ⟨hf, a⟩
theorem On.mapTSet {b : Nat} {kvs kvs' : List KT} {ck ck' : Nat} (hf : fitT kvs' ck') (H : On W0 (MapT b kvs ck :: L) w) : On W0 (MapT b kvs' ck' :: L) { w with heap := w.heap.setIfInBounds b (mapOT kvs' ck') } := by
 obtain ⟨_, H⟩ := H.mapTOpen
 have hb := H.block 0 rfl
 have hlt : b < w.heap.size := (Array.getElem?_eq_some_iff.1 hb).1
 refine On.mapTClose hf (H.set (w' := { w with heap := w.heap.setIfInBounds b (mapOT kvs' ck') }) 0 rfl rfl rfl rfl (by simp) ?_ ?_)
 · simp [Array.getElem?_setIfInBounds, hlt]
 intro k hk
 simp [Array.getElem?_setIfInBounds, Ne.symm hk]
theorem eff_makeMapT {t : Nat} (H : On W0 L w) : Eff P ρ ⟨d, .makeMap t none, ty, pos, af, g⟩ w (fun v w' => ∃ b, v = .map (some b) ∧ On W0 (MapT b [] 0 :: L) w') := by
 refine .inl ⟨.map (some w.heap.size), w.alloc (.map #[] 0), ?_, _, rfl, On.mapTClose List.nodup_nil (H.alloc _)⟩
 have hn : (newObj (.map #[] 0)).run P w = .ok w.heap.size (w.alloc (.map #[] 0)) := rfl
 simp [execOp, Instr.makeMap, hn]
theorem getObj_mapT {b : Nat} {kvs : List KT} {ck : Nat} (hb : w.heap[b]? = some (mapOT kvs ck)) : (getObj b).run P w = .ok (.map (kvs.map entT).toArray ck) w := MapKept.run_getObj_map (by exact hb)
theorem run_lookupTOk {t et b : Nat} {p : List UInt8} {x y : Operand} {z v : Value} {o : Bool} {kvs : List KT} {ck : Nat} (hk : P.underlying kt = some .string) (hb : w.heap[b]? = some (mapOT kvs ck)) (hU : P.underlying t = some (.map kt et)) (hZ : ∀ w, (zeroValue et).run P w = .ok z w) (hx : ρ x = .map (some b)) (hy : ρ y = keyT p)
   (hv : (lookT kvs p).getD z = v) (ho : (lookT kvs p).isSome = o) : (execOp ρ ⟨d, .lookup t x y true, ty, pos, af, g⟩).run P w = .ok (.value (.tuple #[v, .bool o])) w := by
 subst hv
 subst ho
 have hf := text_find (w := w) hk p kvs
 have hgo := getObj_mapT (P := P) hb
 rw [lookT_idx]
 have hck : ∀ e, (Instr.checkKey e 10000 kt (keyT p)).run P w = .ok () w := fun e => text_check hk e p
 cases hfi : kvs.findIdx? fun x => x.1 == p with
 | none =>
   rw [hfi] at hf
   simp only [Option.bind_none] at hf ⊢
   simp [execOp, Instr.lookup, run_underlying hU, hx, hy, hgo, hck, hf, hZ]
 | some j =>
   rw [hfi] at hf
   have hj := (List.findIdx?_eq_some_iff_getElem.1 hfi).1
   have hg : kvs[j]? = some kvs[j] := by simp
   simp only [Option.bind_some, hg, Option.map_some] at hf ⊢
   simp [execOp, Instr.lookup, run_underlying hU, hx, hy, hgo, hck, hf]
theorem run_lookupT {t et b : Nat} {p : List UInt8} {x y : Operand} {z v : Value} {kvs : List KT} {ck : Nat} (hk : P.underlying kt = some .string) (hb : w.heap[b]? = some (mapOT kvs ck)) (hU : P.underlying t = some (.map kt et)) (hZ : ∀ w, (zeroValue et).run P w = .ok z w) (hx : ρ x = .map (some b)) (hy : ρ y = keyT p)
   (hv : (lookT kvs p).getD z = v) : (execOp ρ ⟨d, .lookup t x y false, ty, pos, af, g⟩).run P w = .ok (.value v) w := by
 subst hv
 have hf := text_find (w := w) hk p kvs
 have hgo := getObj_mapT (P := P) hb
 rw [lookT_idx]
 have hck : ∀ e, (Instr.checkKey e 10000 kt (keyT p)).run P w = .ok () w := fun e => text_check hk e p
 cases hfi : kvs.findIdx? fun x => x.1 == p with
 | none =>
   rw [hfi] at hf
   simp only [Option.bind_none] at hf ⊢
   simp [execOp, Instr.lookup, run_underlying hU, hx, hy, hgo, hck, hf, hZ]
 | some j =>
   rw [hfi] at hf
   have hj := (List.findIdx?_eq_some_iff_getElem.1 hfi).1
   have hg : kvs[j]? = some kvs[j] := by simp
   simp only [Option.bind_some, hg, Option.map_some] at hf ⊢
   simp [execOp, Instr.lookup, run_underlying hU, hx, hy, hgo, hck, hf]
theorem run_insKeyT {p : List UInt8} : (Instr.keyThatStays (keyT p) (keyT p)).run P w = .ok (keyT p) w := by
 have h : Instr.sameBits 10000 (keyT p) (keyT p) = true := by
   unfold keyT
   rw [show (10000 : Nat) = 9999 + 1 from rfl]
   unfold Instr.sameBits
   rw [ba_beq]; simp
 unfold Instr.keyThatStays
 rw [if_pos h]
 rfl
theorem putT_modify {p : List UInt8} {v : Value} {kvs : List KT} {j : Nat} (hn : (kvs.map (·.1)).Nodup) (hj : (kvs.findIdx? fun x => x.1 == p) = some j) (ck : Nat) :
   ((kvs.map entT).toArray.modify j fun e => { e with key := keyT p, val := v }) = ((putT kvs p v ck).map entT).toArray := by
 obtain ⟨hlt, hk, _⟩ := List.findIdx?_eq_some_iff_getElem.1 hj
 have hany : kvs.any (fun x => x.1 == p) = true := List.any_eq_true.2 ⟨kvs[j], by simp, hk⟩
 have hkj : kvs[j].1 = p := by simpa using hk
 unfold putT
 rw [if_pos hany]
 apply Array.ext
 · simp
 intro i h1 h2
 simp at h1 h2
 by_cases hij : i = j
 · subst hij
   simp [Array.getElem_modify, entT, hkj]
 have hne : kvs[i].1 ≠ p := by
   intro he
   have h3 : (kvs.map (·.1))[i]'(by simpa using h1) = (kvs.map (·.1))[j]'(by simpa using hlt) := by simp [he, hkj]
   exact hij ((List.getElem_inj hn).1 h3)
 simp [Array.getElem_modify, Ne.symm hij, hne]
theorem putT_keys {kvs : List KT} {p : List UInt8} {v : Value} {ck : Nat} : (putT kvs p v ck).map (·.1) = if kvs.any (fun x => x.1 == p) then kvs.map (·.1) else kvs.map (·.1) ++ [p] := by
 unfold putT
 split
 · rw [List.map_map]
   refine List.map_congr_left fun x _ => ?_
   show (if x.1 = p then (p, v, x.2.2) else x).1 = x.1
   split
   · rename_i he; exact he.symm
   rfl
 rw [List.map_append]; rfl
theorem fitT_put {kvs : List KT} {p : List UInt8} {v : Value} {ck : Nat} (h : fitT kvs ck) : fitT (putT kvs p v ck) (clockT kvs p ck) := by
 unfold fitT
 rw [putT_keys]
 split
 · exact h
 rename_i ha
 refine List.nodup_append.2 ⟨h, by simp, ?_⟩
 intro a ha1 b hb1
 simp at hb1
 subst hb1
 rintro rfl
 obtain ⟨y, hy, he⟩ := List.mem_map.1 ha1
 exact ha (List.any_eq_true.2 ⟨y, hy, by simpa using he⟩)
theorem eff_mapUpdateT {t et b : Nat} {p : List UInt8} {m y x : Operand} {v : Value} {kvs : List KT} {ck : Nat} (hk : P.underlying kt = some .string) (H : On W0 (MapT b kvs ck :: L) w) (hU : P.underlying t = some (.map kt et)) (hm : ρ m = .map (some b)) (hy : ρ y = keyT p) (hx : ρ x = v) :
   Eff P ρ ⟨d, .mapUpdate t m y x, ty, pos, af, g⟩ w (fun _ w' => On W0 (MapT b (putT kvs p v ck) (clockT kvs p ck) :: L) w') := by
 obtain ⟨hfit, hb⟩ := H.mapTC
 have hO := H.mapTSet (fitT_put (p := p) (v := v) hfit)
 have hf := text_find (w := w) hk p kvs
 have hgo := getObj_mapT (P := P) hb
 have hso : ∀ o, (setObj b o).run P w = .ok () { w with heap := w.heap.setIfInBounds b o } := fun o => MapKept.run_setObj_map o (by exact hb)
 have hck : ∀ e, (Instr.checkKey e 10000 kt (keyT p)).run P w = .ok () w := fun e => text_check hk e p
 refine .inr (.inl ⟨_, ?_, hO⟩)
 cases hfi : kvs.findIdx? fun x => x.1 == p with
 | none =>
   rw [hfi] at hf
   simp only [Option.bind_none] at hf
   have hany : kvs.any (fun x => x.1 == p) = false := by
     rw [List.any_eq_false]; intro x hx; have := List.findIdx?_eq_none_iff.1 hfi x hx; simpa using this
   have e1 : mapOT (putT kvs p v ck) (clockT kvs p ck) = .map ((kvs.map entT).toArray.push { key := keyT p, val := v, born := ck }) (ck + 1) := by
     unfold mapOT putT clockT
     rw [if_neg (by rw [hany]; decide), if_neg (by rw [hany]; decide)]
     simp [entT]
   rw [e1]
   simp [execOp, Instr.mapUpdate, run_underlying hU, hm, hy, hx, hgo, hck, hf, hso]
 | some j =>
   rw [hfi] at hf
   have hj := (List.findIdx?_eq_some_iff_getElem.1 hfi).1
   have hkk := (List.findIdx?_eq_some_iff_getElem.1 hfi).2.1
   have hg : kvs[j]? = some kvs[j] := by simp
   simp only [Option.bind_some, hg, Option.map_some] at hf
   have hany : kvs.any (fun x => x.1 == p) = true := List.any_eq_true.2 ⟨kvs[j], by simp, hkk⟩
   have hkj : kvs[j].1 = p := by simpa using hkk
   have e1 : mapOT (putT kvs p v ck) (clockT kvs p ck) = .map ((kvs.map entT).toArray.modify j fun e => { e with key := keyT p, val := v }) ck := by
     unfold mapOT clockT
     rw [if_pos hany, putT_modify hfit hfi ck]
   rw [e1]
   simp [execOp, Instr.mapUpdate, run_underlying hU, hm, hy, hx, hgo, hck, hf, hso, hg, entT, hkj, run_insKeyT]
theorem lookT_none {kvs : List KT} {p : List UInt8} (h : p ∉ kvs.map (·.1)) : lookT kvs p = none := by
 unfold lookT
 rw [List.find?_eq_none.2 (fun x hx => by simpa using fun e : x.1 = p => h (List.mem_map.2 ⟨x, hx, e⟩))]
 rfl
theorem eff_insertT {t et b : Nat} {p : List UInt8} {m y x : Operand} {v : Value} {kvs : List KT} {ck : Nat} (hk : P.underlying kt = some .string) (H : On W0 (MapT b kvs ck :: L) w) (hU : P.underlying t = some (.map kt et)) (hm : ρ m = .map (some b)) (hy : ρ y = keyT p) (hx : ρ x = v) :
   Eff P ρ ⟨d, .insert t m y x, ty, pos, af, g⟩ w (fun _ w' => On W0 (MapT b (putT kvs p v ck) (clockT kvs p ck) :: L) w') := eff_mapUpdateT (d := d) (ty := ty) (pos := pos) (af := af) (g := g) hk H hU hm hy hx
end
end Go.Sl
namespace Go.Sl
open Go Go.Lib
section
variable {P : Program} {W0 w : World} {L L' : List HProp} {ρ : Operand → Value} {d : Option Nat} {ty : TypeId} {pos : String} {af : Array Edge} {g : Option (Nat × Bool)}
end
end Go.Sl
namespace Go.Sl
open Go Go.Lib
section
variable {P : Program} {W0 w : World} {L L' : List HProp} {ρ : Operand → Value} {d : Option Nat} {ty : TypeId} {pos : String} {af : Array Edge} {g : Option (Nat × Bool)}
theorem append_text {t u e n bytes : Nat} {v z : Value} {xs : List Value} {s : List UInt8} {i : TypeInfo} {ty : TypeId} (H : On W0 (Own 1 v n xs :: L) w) (hU2 : P.underlying u = some .string)
   (hU : P.underlying t = some (.slice e)) (hI : P.info? e = some i) (hsz : i.size = 1) (hby : i.bytes = bytes) (hz : i.zero = some z) (hzs : z.cells.size = 1)
   (h63 : n + s.length ≤ maxLen) (hb : (n + s.length) * bytes ≤ 140737488355328) :
   ∃ v' w', (Builtin.append_ #[t, u] ty #[v, .string ⟨s.toArray⟩]).run P w = .ok v' w' ∧ Grown 1 (n + s.length) (xs ++ bytesV s) W0 L v' w' := by
 obtain ⟨m, hm0⟩ : ∃ m, m = s.length := ⟨_, rfl⟩
 obtain ⟨ys, hys⟩ : ∃ ys, ys = bytesV s := ⟨_, rfl⟩
 obtain ⟨y, hy0⟩ : ∃ y : Value, y = .string ⟨s.toArray⟩ := ⟨_, rfl⟩
 rw [← hm0, ← hys, ← hy0]
 rw [← hm0] at h63 hb
 have h1c : ∀ u ∈ ys, u.oneCell' = true := by rw [hys]; exact fun u hu => bytes_one u hu
 have hfa : ∀ w', (Builtin.firstCells 1 m y).run P w' = .ok ys.toArray w' := by
   intro w'
   have h := run_firstCells_string (P := P) w' 1 ⟨s.toArray⟩
   rw [hy0, hm0, hys]
   exact h.trans (by rfl)
 rw [← hsz] at hfa hzs H ⊢
 subst hby
 have hf := hfa w
 have hly : (Builtin.lenOf y).run P w = .ok m w := by rw [hy0, hm0]; rfl
 have hylen : ys.length = m * i.size := by rw [hsz, hys, hm0, Nat.mul_one, bytesV, List.length_map]
 have hO := H.get 0 rfl (Own_mono _ _ _ _)
 have Cx := hO.cells
 have hxlen : xs.length = n * i.size := hO.1
 have hm63 : ((n + m : Nat) : Int) ≤ 9223372036854775807 := by simp only [maxLen] at h63; omega
 have grow : ∀ (ao : Option Addr) (cap : Nat), v = .slice ao n cap → cap < n + m → ∃ v' w', (Builtin.append_ #[t, u] ty #[v, y]).run P w = .ok v' w' ∧ Grown i.size (n + m) (xs ++ ys) W0 L v' w' := by
   intro ao cap hv hcap
   have hne : ¬ (n + m ≤ cap) := by omega
   have h63' : ¬ (9223372036854775807 < ((n : Int) + (m : Int))) := by omega
   have h48' : ¬ (281474976710656 < Builtin.nextslicecap (n + m) cap * i.bytes) := by
     have := growslice_fits (old := cap) (by omega) hb; omega
   have Cxd : Cells i.size v n xs (hp w.drew) := Cx
   have hfd := hfa w.drew
   have hfx := run_firstCells_C (P := P) Cxd
   subst hv
   refine ⟨.slice (some ⟨w.heap.size, 0, none⟩) (n + m) (grownCap w (n + m) cap e), w.drew.alloc (.cells (xs.toArray ++ ys.toArray ++ Builtin.zeroCells z.cells (grownCap w (n + m) cap e - (n + m))) e), ?_, ?_⟩
   · simp [Builtin.append_, run_underlying hU, run_underlying hU2, sizeOf, typeInfo, zeroValue, hI, hz, hly, hne, h63', h48', Question.forced, hfd, hfx, newRow, grownCap]
     congr 2
     apply Array.ext'
     simp [List.append_assoc]
   refine ⟨_, _, rfl, ?_⟩
   have hge := grownCap_ge w (n + m) cap e
   have hcm : grownCap w (n + m) cap e ≤ maxLen := grownCap_le_maxLen w (n + m) cap e h63
   have hA := (H.tail.drew).alloc (.cells (xs.toArray ++ ys.toArray ++ Builtin.zeroCells z.cells (grownCap w (n + m) cap e - (n + m))) e)
   refine hA.head fun h hh => ⟨by simp [hxlen, hylen, Nat.add_mul], .inr ⟨w.heap.size, 0, grownCap w (n + m) cap e, xs ++ ys ++ (Builtin.zeroCells z.cells (grownCap w (n + m) cap e - (n + m))).toList, e, (0, 0), rfl, hge, hcm, ?_, ?_, ?_, ?_⟩⟩
   · simp only [List.length_append, hxlen, hylen, Array.length_toList, size_zeroCells, hzs, ← Nat.add_mul]
     rw [Nat.zero_add]
     apply Nat.le_of_eq; congr 1; omega
   · rw [List.drop_zero]
     have : (n + m) * i.size = (xs ++ ys).length := by simp [hxlen, hylen, Nat.add_mul]
     rw [this]
     exact List.take_left
   · exact .inl rfl
   have hh' : h w.drew.heap.size = _ := hh
   rw [show w.drew.heap.size = w.heap.size from rfl] at hh'
   rw [hh']
   simp [obj]
 rcases (Own.openOn H).2 with ⟨rfl, ao, rfl⟩ | ⟨gb, off, cap, cur, e', fr, rfl, hnc, hcm, hfit, htake, hfree, Hb⟩
 · by_cases hm : m = 0
   · subst hm
     have hy0 : ys = [] := List.eq_nil_of_length_eq_zero (by simpa using hylen)
     have hx0 : xs = [] := List.eq_nil_of_length_eq_zero (by simpa using hxlen)
     subst hy0; subst hx0
     refine ⟨.slice ao 0 0, w, ?_, ⟨ao, 0, rfl, H⟩⟩
     cases ao <;> simp [Builtin.append_, run_underlying hU, run_underlying hU2, sizeOf, typeInfo, hI, hly, hf, storeCells]
   exact grow ao 0 rfl (by omega)
 by_cases hroom : n + m ≤ cap
 · have hfit' : off + n * i.size + ys.length ≤ cur.length := by
     rw [hylen]
     have : (n + m) * i.size ≤ cap * i.size := Nat.mul_le_mul_right _ hroom
     rw [Nat.add_mul] at this
     omega
   have hcapm : off + n * i.size + ys.length ≤ off + cap * i.size := by
     rw [hylen]
     have : (n + m) * i.size ≤ cap * i.size := Nat.mul_le_mul_right _ hroom
     rw [Nat.add_mul] at this
     omega
   obtain ⟨w', hst, hO'⟩ := Hb.storeCells (P := P) 0 rfl (off + n * i.size) ys hfit' h1c (fun k h1 h2 => free_ok hfree (by omega))
   refine ⟨.slice (some ⟨gb, off, none⟩) (n + m) cap, w', ?_, _, _, rfl, ?_⟩
   · simp [Builtin.append_, run_underlying hU, run_underlying hU2, sizeOf, typeInfo, hI, hly, hroom, hf, Addr.add_mk, hst]
   have e1 := take_splice (m := (n + m) * i.size) htake hxlen hfit' (by rw [hylen, Nat.add_mul])
   exact Own.closeOn (e := e') (fr := fr) hO' (by simp [hxlen, hylen, Nat.add_mul]) hroom hcm (by rw [splice_length hfit']; exact hfit) e1 (by rw [splice_length hfit']; exact hfree)
 exact grow (some ⟨gb, off, none⟩) cap rfl (by omega)
theorem eff_appText {t u e n c bytes : Nat} {a : Option Addr} {z : Value} {xs : List Value} {s : List UInt8} {i : TypeInfo} {sx sy : Operand} (H : On W0 L w) (hs : ρ sx = .slice a n c) (hy : ρ sy = .string ⟨s.toArray⟩) [p : OwnIn L (.slice a n c) 1 n xs L']
   (hU : P.underlying t = some (.slice e)) (hU2 : P.underlying u = some .string) (hI : P.info? e = some i) (hsz : i.size = 1) (hby : i.bytes = bytes) (hz : i.zero = some z) (hzs : z.cells.size = 1)
   (h63 : n + s.length ≤ maxLen) (hb : (n + s.length) * bytes ≤ 140737488355328) :
   Eff P ρ ⟨d, .call { callee := .builtin .append, args := #[sx, sy], argTypes := #[t, u] }, ty, pos, af, g⟩ w (Grown 1 (n + s.length) (xs ++ bytesV s) W0 L') := by
 obtain ⟨v', w', hr, hG⟩ := append_text (ty := ty) (H.imp p.out) hU2 hU hI hsz hby hz hzs h63 hb
 exact .inl ⟨v', w', by simp [execOp, resolve, invoke, builtin, hs, hy, hr], hG⟩
end
end Go.Sl
namespace Go.Proofs.YtjfmjbmkkpkppaaGreatDoor
open Go.Proofs.Tryz
open Go Go.Sl Go.Sl.BitM Go.Sl.SpM Go.Sl.RsM Go.Sl.ByM Go.Sl.UnM Go.Sl.TpM
set_option maxHeartbeats 1000000
set_option maxRecDepth 8000
variable {W0 w : World} {L F : List HProp}
theorem right_ok {p : Pr} (h1 : p.1.length ≤ 1000000) (h2 : p.2.length ≤ 1000000) (h : On W0 L w) : Calls Tryz.prog 141 #[.agg (prCells p).toArray] w (Ret fun v w' => v = .bool (rightB p) ∧ On W0 L w') := by
 refine enter func141 rfl ntmps141 rfl (W.sr (WL.e (eff_box (v := .agg (prCells p).toArray) (l := prCells p) h rfl rfl) ?_))
 rintro _ w ⟨b1, rfl, h⟩
 refine WL.z (W.sr (WL.z (W.sr ?_)))
 refine WL.c 0 underlying216 rfl sizeOf9 rfl isAgg9 h rfl ?_
 refine WL.q (run_neqStrD (a := p.1) (b := []) rfl rfl) (fun c6 => ?_) (fun c6 => ?_)
 ·
  refine WL.m (WL.c 0 underlying216 rfl sizeOf9 rfl isAgg9 h rfl (WL.v (run_lenStr underlying9 rfl) ?_))
  refine WL.q (run_leq rfl rfl) (fun c11 => ?_) (fun c11 => ?_)
  ·
   refine WL.pt (WL.m (WL.c 0 underlying216 rfl sizeOf9 rfl isAgg9 h rfl (WL.m (WL.e (eff_call call162 (of_ok (s := p.1) (f := 159) (caps := #[]) (p := signB) h1 h call159 (fun c w h => sign_ok h))) ?_))))
   rintro _ w ⟨rfl, h⟩
   refine WL.boolB (run_pickT rfl) rfl rfl (fun c18 => ?_) (fun c18 => ?_)
   ·
    refine WL.m (WL.c 1 underlying216 rfl sizeOf9 rfl isAgg9 h rfl (WL.v (run_lenStr underlying9 rfl) ?_))
    refine WL.q (run_leq rfl rfl) (fun c23 => ?_) (fun c23 => ?_)
    ·
     refine WL.pt (WL.m (WL.c 1 underlying216 rfl sizeOf9 rfl isAgg9 h rfl (WL.e (eff_call call161 (ixb_ok (s := p.2) (c := 0) h)) ?_)))
     rintro _ w ⟨rfl, h⟩
     refine WL.v (run_lss rfl rfl) (WL.pt (WL.z (W.ret (bodyQ.r1 (v := .bool _) results141 rfl ?_))))
     have hA : decide (0 < p.1.length) = true := decide_eq_true (List.length_pos_iff.2 c6)
     have hB : decide (p.1.length ≤ 63) = true := decide_eq_true (by have q : ((p.1.length : Nat) : Int) ≤ 63 := c11; omega)
     have hD : decide (p.2.length ≤ 255) = true := decide_eq_true (by have q : ((p.2.length : Nat) : Int) ≤ 255 := c23; omega)
     have e : rightB p = decide (Go.Lib.indexByte p.2 0 < 0) := by unfold rightB; rw [hA, hB, c18, hD]; simp
     rw [e]
     exact ⟨rfl, h.tail⟩
    refine WL.pt (WL.m (WL.s (WL.s (WL.s (WL.s (WL.pf (WL.a ?_)))))))
    refine WL.nil (W.ret (bodyQ.r1 (v := .bool _) results141 rfl ?_))
    have hA : decide (0 < p.1.length) = true := decide_eq_true (List.length_pos_iff.2 c6)
    have hB : decide (p.1.length ≤ 63) = true := decide_eq_true (by have q : ((p.1.length : Nat) : Int) ≤ 63 := c11; omega)
    have hD : decide (p.2.length ≤ 255) = false := decide_eq_false (by have q : ¬ ((p.2.length : Nat) : Int) ≤ 255 := c23; omega)
    have e : rightB p = false := by unfold rightB; rw [hA, hB, c18, hD]; simp
    rw [e]
    exact ⟨rfl, h.tail⟩
   refine WL.m (WL.s (WL.s (WL.s (WL.s (WL.pf (WL.m (WL.s ?_)))))))
   refine WL.s (WL.s (WL.s (WL.pf (WL.z (W.ret (bodyQ.r1 (v := .bool _) results141 rfl ?_))))))
   have hA : decide (0 < p.1.length) = true := decide_eq_true (List.length_pos_iff.2 c6)
   have hB : decide (p.1.length ≤ 63) = true := decide_eq_true (by have q : ((p.1.length : Nat) : Int) ≤ 63 := c11; omega)
   have e : rightB p = false := by unfold rightB; rw [hA, hB, c18]; simp
   rw [e]
   exact ⟨rfl, h.tail⟩
  refine WL.pt (WL.m (WL.s (WL.s (WL.s (WL.s (WL.pf (WL.m ?_)))))))
  refine WL.s (WL.s (WL.s (WL.s (WL.pf (WL.m (WL.s (WL.s ?_)))))))
  refine WL.s (WL.s (WL.pf (WL.z (W.ret (bodyQ.r1 (v := .bool _) results141 rfl ?_)))))
  have hA : decide (0 < p.1.length) = true := decide_eq_true (List.length_pos_iff.2 c6)
  have hB : decide (p.1.length ≤ 63) = false := decide_eq_false (by have q : ¬ ((p.1.length : Nat) : Int) ≤ 63 := c11; omega)
  have e : rightB p = false := by unfold rightB; rw [hA, hB]; simp
  rw [e]
  exact ⟨rfl, h.tail⟩
 refine WL.m (WL.s (WL.s (WL.s (WL.s (WL.pf (WL.m (WL.s ?_)))))))
 refine WL.s (WL.s (WL.s (WL.pf (WL.m (WL.s (WL.s (WL.s ?_)))))))
 refine WL.s (WL.pf (WL.m (WL.s (WL.s (WL.s (WL.s (WL.pf ?_)))))))
 refine WL.z (W.ret (bodyQ.r1 (v := .bool _) results141 rfl ?_))
 have hA : decide (0 < p.1.length) = false := decide_eq_false (fun q => c6 (List.length_pos_iff.1 q))
 have e : rightB p = false := by unfold rightB; rw [hA]; simp
 rw [e]
 exact ⟨rfl, h.tail⟩
theorem tencode_ok {al : Option Addr} {cl : Nat} {l : List Pr} {b : List UInt8} (hl : l.length ≤ 1000) (he : encT' l = some b) (h : On W0 L w) (C : Gives L (Cells 2 (.slice al l.length cl) l.length (l.flatMap prCells))) : Calls Tryz.prog 127 #[.slice al l.length cl] w (Ret fun v w' => ∃ a, v = .tuple #[.slice a b.length b.length, .int .i64 0] ∧ On W0 (OwnB (.slice a b.length b.length) b :: L) w') := by
 refine enter func127 rfl ntmps127 rfl ?_
 have hmx := maxLen_eq
 have hes := encT_some he
 obtain ⟨hall, hdis, hbe, hbl⟩ := hes
 have hek : ∀ k, ((l.take k).flatMap encPr).length ≤ b.length := by
   intro k
   have q : b = ((l.take k).flatMap encPr) ++ (l.drop k).flatMap encPr := by rw [hbe, ← List.flatMap_append, List.take_append_drop]
   rw [q, List.length_append]; omega
 refine W.sr (WL.a (WL.z (W.sr (WL.a ?_))))
 refine WL.nil (W.sr (WL.z (W.sr (WL.e (eff_makeMapT h) ?_))))
 rintro _ w ⟨bm, rfl, h⟩
 refine WL.z (W.seq (W.sr (WL.m (WL.v (run_lenSlice underlying207 rfl) (WL.m ?_)))))
 refine WL.nil (W.block ?_)
 refine W.loop (fun (k : Nat) env w => k ≤ l.length ∧ ∃ (j : Env) (ao : Option Addr) (co : Nat) (kvs : List KT) (ck : Nat), kvs.map (·.1) = (l.take k).map (·.1) ∧ env = mkE j [(4, .slice ao ((l.take k).flatMap encPr).length co), (5, .bool false), (6, .map (some bm)), (10, .slice al l.length cl), (11, .int .i64 (l.length : Int)), (12, .int .i64 (k : Int))] ∧ On W0 (OwnB (.slice ao ((l.take k).flatMap encPr).length co) ((l.take k).flatMap encPr) :: MapT bm kvs ck :: L) w) (fun k => l.length - k) (0) ?_ ?_
 · have h := h.ownEmpty 1 none
   have h : On W0 (OwnB (.slice none ((l.take 0).flatMap encPr).length 0) ((l.take 0).flatMap encPr) :: _) w := h
   exact ⟨Nat.zero_le _, _, none, 0, [], 0, rfl, mkE_of ⟨rfl, rfl, rfl, rfl, rfl, rfl, trivial⟩, h.to⟩
 clear h
 rintro k env w ⟨hk, j, ao, co, kvs, ck, hks, rfl, h⟩
 refine W.sr (WL.v (run_lss rfl rfl) (WL.nil (W.seq ?_)))
 refine W.condIf rfl (fun c8 => ?_) (fun c8 => ?_)
 ·
  refine W.skip (W.seq ?_)
  have ob_ : ∃ x, l[k]? = some x := ⟨l[k]'(by omega), List.getElem?_eq_getElem _⟩
  obtain ⟨x, hx⟩ := ob_
  have hxr := List.all_eq_true.1 hall x (List.mem_of_getElem? hx)
  have hxl := right_len hxr
  have ad_ := (h.readsTo C).addr (by omega)
  obtain ⟨bq, oq, hal_⟩ := ad_
  subst hal_
  have hst : ((l.take (k + 1)).flatMap encPr) = ((l.take k).flatMap encPr) ++ encPr x := by rw [Sl.take_snoc hx, List.flatMap_append]; simp
  have hnk : x.1 ∉ kvs.map (·.1) := by
    rw [hks, List.map_take]
    exact distinct_at hdis (by rw [List.getElem?_map, hx]; rfl)
  have hek0 := hek k
  have hek1 := hek (k + 1)
  refine W.block (W.sr (WL.v (run_indexAddr underlying207 sizeOf216 rfl rfl (by omega) (by omega)) (WL.v (run_loadN isAgg216 sizeOf216 rfl rfl ((h.readsTo C).elem (i := k) (vs := prCells x) (by omega) (drop_flatMap prCells 2 prCells_length l _ _ hx))) (WL.e (eff_alloc h zeroValue216 rfl) ?_))))
  rintro _ w ⟨b8, rfl, h⟩
  refine WL.e (eff_storeW (vs := prCells x) h sizeOf216 rfl rfl rfl rfl rfl) ?_
  rintro _ w h
  refine WL.nil (W.sr (WL.m (WL.m (WL.v (run_loadB (vs := prCells x) h isAgg216 sizeOf216 rfl rfl rfl) (WL.e (eff_call call141 (right_ok (p := x) (by omega) (by omega) h)) ?_)))))
  rintro _ w ⟨hv, h⟩
  rw [hxr] at hv
  subst hv
  refine WL.v (run_not rfl) (WL.pf (WL.m (WL.m (WL.c 0 underlying216 rfl sizeOf9 rfl isAgg9 h rfl (WL.v (run_lookupT (p := x.1) (v := .bool false) underlying9 (On.mapTC (h.fetch (MapT bm kvs ck))).2 underlying214 zeroValue4 rfl rfl (by rw [lookT_none hnk]; rfl)) (WL.pf ?_))))))
  refine WL.z (W.sr (WL.m (WL.c 0 underlying216 rfl sizeOf9 rfl isAgg9 h rfl (WL.e (eff_mapUpdateT (p := x.1) (v := .bool true) underlying9 (h.fetch (MapT bm kvs ck)) underlying214 rfl rfl rfl) ?_))))
  rintro _ w h
  have hks2 : (putT kvs x.1 (.bool true) ck).map (·.1) = (l.take (k + 1)).map (·.1) := by
    rw [putT_keys, if_neg (by rw [List.any_eq_true]; rintro ⟨y, hy, hq⟩; exact hnk (List.mem_map.2 ⟨y, hy, by simpa using hq⟩)), hks, Sl.take_snoc hx, List.map_append]; rfl
  refine WL.nil (W.sr (WL.m (WL.v (run_lenSlice underlying26 rfl) (WL.v (run_leqT rfl rfl (by omega)) (WL.nil (W.ct ?_))))))
  refine W.region (WL.m (WL.c 0 underlying216 rfl sizeOf9 rfl isAgg9 h rfl (WL.v (run_addStr (a := x.1) (b := [61]) rfl rfl (by simp only [List.length_cons, List.length_nil]; omega)) (WL.c 1 underlying216 rfl sizeOf9 rfl isAgg9 h rfl (WL.v (run_addStr (a := x.1 ++ [61]) (b := x.2) rfl rfl (by simp only [List.length_append, List.length_cons, List.length_nil]; omega)) ?_)))))
  refine WL.v (run_addStr (a := x.1 ++ [61] ++ x.2) (b := [0]) rfl rfl (by simp only [List.length_append, List.length_cons, List.length_nil]; omega)) (WL.e (eff_appText (bytes := 1) (s := encPr x) h rfl rfl underlying26 underlying9 rfl rfl rfl rfl rfl (by rw [hst, List.length_append] at hek1; omega) (by rw [hst, List.length_append] at hek1; omega)) ?_)
  rintro _ w ⟨a42, c42, hv42, h⟩
  have ev : bytesV ((l.take k).flatMap encPr) ++ bytesV (encPr x) = bytesV ((l.take (k + 1)).flatMap encPr) := by rw [hst]; simp [bytesV]
  have el : ((l.take k).flatMap encPr).length + (encPr x).length = ((l.take (k + 1)).flatMap encPr).length := by rw [hst, List.length_append]
  rw [ev, el] at h
  rw [hst] at el
  rw [el] at hv42
  subst hv42
  refine WL.z (W.region (WL.v (run_incN rfl rfl (by omega)) (WL.m (WL.nil ?_))))
  exact ⟨k + 1, ⟨by omega, _, a42, c42, putT kvs x.1 (.bool true) ck, clockT kvs x.1 ck, hks2, mkE_of ⟨congrArg (fun q : List UInt8 => Value.slice a42 q.length c42) hst.symm, rfl, rfl, rfl, rfl, rfl, trivial⟩, h.to⟩, by show l.length - (k + 1) < l.length - k; omega⟩
 refine W.exit (W.seq ?_)
 have ek : k = l.length := by omega
 subst ek
 have ebe : ((l.take l.length).flatMap encPr) = b := by rw [hbe, List.take_length]
 refine W.block (W.sr (WL.m (WL.z (W.cf (W.seq ?_)))))
 refine W.region (WL.m (WL.v (run_lenSlice underlying26 rfl) (WL.v (run_gtrF rfl rfl (by have := hek l.length; omega)) (WL.z (W.cs ?_)))))
 refine W.sr (WL.m (WL.e (eff_call call43 (clip_bytes h)) ?_))
 rintro _ w ⟨rfl, h⟩
 refine WL.a (WL.z (W.ret (bodyQ.r2 (v1 := .slice _ _ _) (v2 := .int .i64 _) results127 rfl rfl ?_)))
 rw [ebe] at h ⊢
 exact ⟨ao, rfl, h.to⟩
end Go.Proofs.YtjfmjbmkkpkppaaGreatDoor
namespace Go.Sl
open Go Go.Sl.TpM
def GlP (m : Int) : HProp := fun h => (∃ e fr, h 0 = some (.cells #[.int .i64 m] e fr)) ∧ ∃ e fr, h 1 = some (.cells (Lib.pow10Tab.map fun z => Value.int .u64 z).toArray e fr)
section
variable {P : Program} {W0 w : World} {L : List HProp}
theorem results_tmp_cell_tmp {fn : Func} {p u v : Nat} {ty : TypeId} {tmps : Array Value} (h : fn.results = #[.tmp u, .cell p ty, .tmp v]) :
   (results fn tmps).run P w =
     ((asAddr (tmps.getD p undef)).run P w).andThen fun a w₁ => ((loadVar ty a).run P w₁).andThen fun x w₂ => .ok (.tuple #[tmps.getD u undef, x, tmps.getD v undef]) w₂ := by
 simp only [results, h]
 simp [Sem.run_bind, Result.andThen]
theorem bodyQ.tct {N : Nat} {env : Env} {fn : Func} {R : Value → World → Prop} {t u v rt b n : Nat} {vs : List Value} {v2 v3 : Value} (h : fn.results = #[.tmp u, .cell t rt, .tmp v]) (hA : ∀ w, (isAgg rt).run P w = .ok true w) (hS : ∀ w, (sizeOf rt).run P w = .ok n w)
   (he : env t = .pointer (some ⟨b, 0, none⟩)) (hl : vs.length = n) (hc : ∀ j u, vs[j]? = some u → w.cell? ⟨b, 0 + j, none⟩ = some u) (h2 : env u = v2) (h3 : env v = v3) (hR : R (.tuple #[v2, .agg vs.toArray, v3]) w) :
   bodyQ P fn R .ret env w := by
 refine ⟨.tuple #[v2, .agg vs.toArray, v3], fun tmps hg => ?_, hR⟩
 have hp : tmps.getD t undef = .pointer (some ⟨b, 0, none⟩) := by rw [hg, he]
 have := run_loadCells_list (P := P) w ⟨b, 0, none⟩ vs (fun j v hv => by rw [Addr.add_mk]; exact hc j v hv)
 rw [hl] at this
 rw [results_tmp_cell_tmp h, hp]
 simp only [asAddr, Sem.run_pure, Result.andThen_ok]
 simp [loadVar, hA, hS, this, ← h2, ← h3, ← hg u, ← hg v]
theorem bodyQ.tctB {env : Env} {fn : Func} {R : Value → World → Prop} {t u v rt b n : Nat} {l vs : List Value} {v2 v3 : Value} {e : Nat} {fr : Nat × Nat} (H : On W0 L w) (h : fn.results = #[.tmp u, .cell t rt, .tmp v]) (hA : ∀ w, (isAgg rt).run P w = .ok true w) (hS : ∀ w, (sizeOf rt).run P w = .ok n w)
   (he : env t = .pointer (some ⟨b, 0, none⟩)) [i : HasBlk L b l e fr] (hv : l = vs) (hl : vs.length = n) (h2 : env u = v2) (h3 : env v = v3) (hR : R (.tuple #[v2, .agg vs.toArray, v3]) w) : bodyQ P fn R .ret env w :=
 bodyQ.tct (N := 0) h hA hS he hl (fun j u hj => by rw [Nat.zero_add]; exact H.cellB (i := i) (by rw [hv]; exact hj)) h2 h3 hR
theorem glCell {m : Int} (H : On W0 L w) (G : Gives L (GlP m)) : w.cell? ⟨0, 0, none⟩ = some (.int .i64 m) := by
 obtain ⟨⟨e, fr, h0⟩, _⟩ := G _ H.sat
 have h0' : w.heap[0]? = some (.cells #[.int .i64 m] e fr) := h0
 simp [World.cell?, h0']
theorem glTab {m : Int} {nm : String} (H : On W0 L w) (G : Gives L (GlP m)) (hg : P.globalNamed nm = some 1) : Lib.TabIs P w nm .u64 Lib.pow10Tab := by
 obtain ⟨_, e, fr, h1⟩ := G _ H.sat
 have h1' : w.heap[1]? = some _ := h1
 unfold Lib.TabIs World.var?
 rw [hg]
 simp [h1']
end
section
variable {W0 w : World} {L : List HProp}
theorem On.bytesWorld (H : On W0 L w) (e : TypeId) (t : ByteArray) : On W0 L (Lib.bytesWorld w e t) := by
 have h := (H.drewN 1).alloc (.cells (Lib.bytesCells w e t) e)
 have h2 : On W0 (blk w.heap.size (Lib.bytesCells w e t).toList e :: L) (w.drew.alloc (.cells (Lib.bytesCells w e t) e)) := by
   have e2 : obj (Lib.bytesCells w e t).toList e = .cells (Lib.bytesCells w e t) e := by simp [obj]
   unfold blk; rw [e2]; exact h
 have h3 := h2.mark
 unfold Lib.bytesWorld
 rw [show (Lib.bytesCells w e t).size = (Lib.bytesCells w e t).toList.length by simp]
 exact h3.tail
end
theorem splitL_len (s : Str) : (splitL s).length = Lib.count s [44] + 1 := by
 have h := Lib.splitB_all ⟨#[44]⟩ (by decide) 0 (Lib.count s [44]) ⟨s.toArray⟩ (by unfold Lib.countB; simp)
 have h2 := Lib.splitB_data ⟨#[44]⟩ 0 (Lib.count s [44]) ⟨s.toArray⟩
 have h3 := congrArg List.length h2
 rw [List.length_map, h] at h3
 unfold splitL
 exact h3.symm
theorem drop_consT {α : Type} {l : List α} {k : Nat} {x : α} (h : l[k]? = some x) : l.drop k = x :: l.drop (k + 1) := by
 obtain ⟨hk, rfl⟩ := List.getElem?_eq_some_iff.1 h
 exact List.drop_eq_getElem_cons hk
theorem splitL_small {s : Str} {k : Nat} (h : s.length ≤ k) : (splitL s).length ≤ k + 1 := by
 rw [splitL_len]
 have := Lib.countB_mul_le ⟨#[44]⟩ (by decide) s.length ⟨s.toArray⟩ (by show s.toArray.size ≤ _; simp)
 have e2 : (⟨s.toArray⟩ : ByteArray).size = s.length := by show s.toArray.size = _; simp
 rw [e2] at this
 have e3 : (⟨#[44]⟩ : ByteArray).size = 1 := rfl
 rw [e3] at this
 have e1 : Lib.countB ⟨s.toArray⟩ ⟨#[44]⟩ = Lib.count s [44] := by unfold Lib.countB; simp
 rw [e1] at this; omega
theorem splitL_cells (s : Str) : (Lib.splitB ⟨#[44]⟩ 0 (Lib.count s [44]) ⟨s.toArray⟩).map Value.string = (splitL s).map fun t => Value.string ⟨t.toArray⟩ := by
 have h2 := Lib.splitB_data ⟨#[44]⟩ 0 (Lib.count s [44]) ⟨s.toArray⟩
 unfold splitL
 rw [show Lib.splitK [44] 0 (Lib.count s [44]) s = _ from h2.symm, List.map_map]
 apply List.map_congr_left
 intro x _
 rfl
theorem numB_some {s : Str} {n : Nat} (h : numB s = some n) : Lib.hasPrefix s [48, 120] = false ∧ ¬ (1 < s.length ∧ (((s.getD 0 0).toNat : Nat) : Int) = 48) ∧ s.length ≠ 0 ∧ s.length ≤ 9 ∧ s.all digitB = true ∧ Lib.parseIntB 64 s = .ok (n : Int) := by
 unfold numB at h
 split at h
 · cases h
 rename_i h1
 split at h
 · cases h
 rename_i h2
 split at h
 · cases h
 rename_i h3
 simp only [not_or] at h3
 split at h
 · rename_i v hv
   split at h
   · rename_i hv0
     cases h
     refine ⟨by simpa using h1, ?_, h3.1, by omega, by simpa using h3.2.2, ?_⟩
     · intro hc
       exact h2 (by rw [decide_eq_true hc.1, decide_eq_true hc.2]; rfl)
     rw [hv, Int.toNat_of_nonneg hv0]
   cases h
 cases h
theorem boolB_some {s : Str} {x : Bool} (h : boolB s = some x) : decide (s = [89, 101, 115]) = x ∧ (decide (s = [89, 101, 115]) || decide (s = [78, 111])) = true := by
 unfold boolB at h
 split at h
 · rename_i e; cases h; subst e; decide
 rename_i e
 split at h
 · rename_i e2; cases h; subst e2; decide
 cases h
theorem boolB_word (b : Bool) : decide (wordB b = [89, 101, 115]) = b ∧ (decide (wordB b = [89, 101, 115]) || decide (wordB b = [78, 111])) = true := by
 cases b <;> decide
theorem word_yes : wordB true = [89, 101, 115] := by decide
theorem word_no : wordB false = [78, 111] := by decide
theorem cut_len {s sep : List UInt8} : (Lib.cut s sep).1.length ≤ s.length ∧ (Lib.cut s sep).2.1.length ≤ s.length := by
 unfold Lib.cut
 split
 · simp only [List.length_take, List.length_drop]; omega
 simp
theorem decT_lens : ∀ {f : Nat} {s : Str} {had : List Str} {l : List Pr}, decT' f s had = some l → ∀ x ∈ l, x.1.length ≤ 63 ∧ x.2.length ≤ 255
 | 0, _, _, _, h => by cases h
 | f + 1, s, had, l, h => by
   by_cases hs : s = []
   · subst hs
     unfold decT' at h
     rw [if_pos rfl] at h
     cases h
     intro x hx; cases hx
   unfold decT' at h
   rw [if_neg hs] at h
   split at h
   · rename_i hc
     simp only [Bool.and_eq_true] at hc
     cases hd : decT' f (Lib.cut s [0]).2.1 (had ++ [(Lib.cut (Lib.cut s [0]).1 [61]).1]) with
     | none => rw [hd] at h; cases h
     | some r' =>
       rw [hd] at h
       cases h
       intro x hx
       rcases List.mem_cons.1 hx with e | hx
       · subst e; exact right_len hc.1.2
       exact decT_lens hd x hx
   cases h
theorem decT_nil {f : Nat} {had : List Str} {r : List Pr} (h : decT' (f + 1) [] had = some r) : r = [] := by
 unfold decT' at h
 rw [if_pos rfl] at h
 cases h; rfl
theorem decT_step {f : Nat} {s : Str} {had : List Str} {r : List Pr} (h : decT' (f + 1) s had = some r) (hs : s ≠ []) :
   ∃ (it rs k v : Str) (r' : List Pr), Lib.cut s [0] = (it, rs, true) ∧ Lib.cut it [61] = (k, v, true) ∧ rightB (k, v) = true ∧ k ∉ had ∧ decT' f rs (had ++ [k]) = some r' ∧ r = (k, v) :: r' ∧ it.length ≤ s.length ∧ rs.length ≤ s.length ∧ k.length ≤ s.length ∧ v.length ≤ s.length := by
 unfold decT' at h
 rw [if_neg hs] at h
 generalize e1 : Lib.cut s [0] = c1 at h
 obtain ⟨it, rs, ok⟩ := c1
 generalize e2 : Lib.cut it [61] = c2 at h
 obtain ⟨k, v, two⟩ := c2
 have h1 := cut_len (s := s) (sep := [0])
 rw [e1] at h1
 have h2 := cut_len (s := it) (sep := [61])
 rw [e2] at h2
 dsimp only at h h1 h2
 split at h
 · rename_i hc
   simp only [Bool.and_eq_true, Bool.not_eq_true'] at hc
   obtain ⟨⟨⟨ha, hb⟩, hr⟩, hn⟩ := hc
   subst ha
   subst hb
   cases hd : decT' f rs (had ++ [k]) with
   | none => rw [hd] at h; cases h
   | some r' =>
     rw [hd] at h
     cases h
     refine ⟨it, rs, k, v, r', rfl, e2, hr, ?_, hd, rfl, h1.1, h1.2, by omega, by omega⟩
     intro hm
     rw [List.contains_iff_mem.2 hm] at hn; cases hn
 cases h
theorem decTx_some {b : Str} {l : List Pr} (h : decTx b = some l) : b.length ≤ 4096 ∧ decT' (b.length + 1) b [] = some l := by
 unfold decTx at h
 split at h
 · exact ⟨by assumption, h⟩
 cases h
end Go.Sl
namespace Go.Proofs.YtjfmjbmkkpkppaaGreatDoor
open Go.Proofs.Tryz
open Go Go.Sl Go.Sl.BitM Go.Sl.SpM Go.Sl.RsM Go.Sl.ByM Go.Sl.UnM Go.Sl.TpM
set_option maxHeartbeats 1000000
set_option maxRecDepth 8000
variable {W0 w : World} {L F : List HProp}
theorem scut_ok {s sep : List UInt8} {m : Int} (G : Gives L (GlP m)) (hs : s.length ≤ 1000000) (h : On W0 L w) : Calls Tryz.prog 171 #[.string ⟨s.toArray⟩, .string ⟨sep.toArray⟩] w (Ret fun v w' => v = .tuple #[.string ⟨((Lib.cut s sep).1).toArray⟩, .string ⟨((Lib.cut s sep).2.1).toArray⟩, .bool (Lib.cut s sep).2.2] ∧ On W0 L w') :=
 (Go.Proofs.Tryz.strings_Cut ⟨s.toArray⟩ ⟨sep.toArray⟩ m w (by show s.toArray.size < _; simp; omega) (glCell h G)).mono fun e w' he => by
   obtain ⟨rfl, n, rfl⟩ := he
   exact ⟨_, rfl, rfl, h.drewN n⟩
theorem scutp_ok {s p : List UInt8} (h : On W0 L w) : Calls Tryz.prog 204 #[.string ⟨s.toArray⟩, .string ⟨p.toArray⟩] w (Ret fun v w' => v = .tuple #[.string ⟨(Lib.trimPrefix s p).toArray⟩, .bool (Lib.hasPrefix s p)] ∧ On W0 L w') :=
 (Go.Proofs.Tryz.strings_CutPrefix ⟨s.toArray⟩ ⟨p.toArray⟩ w).mono fun e w' he => by
   obtain ⟨rfl, rfl⟩ := he
   exact ⟨_, rfl, rfl, h⟩
theorem itoa_ok {n : Nat} {m : Int} (G : Gives L (GlP m)) (hn : n ≤ 1000000) (h : On W0 L w) : Calls Tryz.prog 142 #[.int .i64 (n : Int)] w (Ret fun v w' => v = .string ⟨(Lib.itoa (n : Int)).toArray⟩ ∧ On W0 L w') :=
 (Go.Proofs.Tryz.strconv_Itoa (n : Int) (by omega) (by omega) w (glTab h G (by kernel_rfl))).mono fun e w' he => by
   obtain ⟨rfl, k, os, rfl⟩ := he
   exact ⟨_, rfl, rfl, (h.drewN k).grow os⟩
theorem clip_prs {a : Option Addr} {n c : Nat} {xs : List Value} (h : On W0 (Own 2 (.slice a n c) n xs :: L) w) : Calls Tryz.prog 172 #[.slice a n c] w (Ret fun v w' => v = .slice a n n ∧ On W0 (Own 2 (.slice a n n) n xs :: L) w') := by
 refine enter func172 rfl ntmps172 rfl ?_
 have ob_ := Own.form h
 obtain ⟨a', c', hv, hnc, hcm, hnone⟩ := ob_
 simp only [Value.slice.injEq] at hv
 obtain ⟨rfl, _, rfl⟩ := hv
 refine W.sr (WL.z (W.sr (WL.m (WL.m ?_))))
 refine WL.v (run_lenSlice underlying207 rfl) (WL.m (WL.v (run_lenSlice underlying207 rfl) (WL.v (run_cutHM underlying207 sizeOf216 rfl rfl rfl  (by omega) (by omega)) (WL.z (W.ret (bodyQ.r1 (v := .slice _ _ _) results172 rfl ?_))))))
 exact ⟨rfl, Own.clip h⟩
theorem tdecode_ok {ax : Option Addr} {cx : Nat} {bs : List UInt8} {l : List Pr} {m : Int} (G : Gives L (GlP m)) (he : decTx bs = some l) (h : On W0 L w) (C : Gives L (Bytes (.slice ax bs.length cx) bs)) : Calls Tryz.prog 149 #[.slice ax bs.length cx] w (Ret fun v w' => ∃ a, v = .tuple #[.slice a l.length l.length, .int .i64 0] ∧ On W0 (Own 2 (.slice a l.length l.length) l.length (l.flatMap prCells) :: L) w') := by
 refine enter func149 rfl ntmps149 rfl ?_
 have hmx := maxLen_eq
 have hes := decTx_some he
 obtain ⟨hbl, hdt⟩ := hes
 refine W.sr (WL.a (WL.z (W.seq (W.sr ?_))))
 refine WL.m (WL.v (run_lenSlice underlying26 rfl) (WL.v (run_gtrF rfl rfl (by omega)) (WL.nil (W.cs (W.sr ?_)))))
 refine WL.z (W.sr (WL.e (eff_makeMapT h) ?_))
 rintro _ w ⟨bm, rfl, h⟩
 refine WL.z (W.seq (W.sr (WL.m (WL.v (run_bytesStr underlying26 underlying5 underlying9 rfl (h.readsTo C)) (WL.a ?_)))))
 refine WL.nil (W.block ?_)
 refine W.loop (fun (f : Nat) env w => ∃ (j : Env) (s : Str) (out rest : List Pr) (kvs : List KT) (ck : Nat) (ao : Option Addr) (co : Nat), (s.length ≤ 4096 ∧ out.length + f ≤ 4097) ∧ decT' f s (kvs.map (·.1)) = some rest ∧ out ++ rest = l ∧ env = mkE j [(4, .slice ao out.length co), (5, .map (some bm)), (6, .string ⟨s.toArray⟩)] ∧ On W0 (Own 2 (.slice ao out.length co) out.length (out.flatMap prCells) :: MapT bm kvs ck :: L) w) (fun f => f) ((bs.length + 1)) ?_ ?_
 · have h := h.ownEmpty 2 none
   have h : On W0 (Own 2 (.slice none ([] : List Pr).length 0) ([] : List Pr).length (([] : List Pr).flatMap prCells) :: _) w := h
   exact ⟨_, bs, [], l, [], 0, none, 0, ⟨hbl, by simp only [List.length_nil]; omega⟩, hdt, rfl, mkE_of ⟨rfl, rfl, rfl, trivial⟩, h.to⟩
 clear h
 rintro f env w ⟨j, s, out, rest, kvs, ck, ao, co, ⟨hsl, hol⟩, hd, hor, rfl, h⟩
 cases f with
 | zero => cases hd
 | succ f => ?_
 refine W.seq (W.sr (WL.m (WL.v (run_neqStrD (a := s) (b := []) rfl rfl) (WL.nil ?_))))
 refine W.condIf rfl (fun c12 => ?_) (fun c12 => ?_)
 ·
  refine W.skip ?_
  have hst := decT_step hd c12
  obtain ⟨it, rs, k, v, r', hc1, hc2, hrt, hnk, hd2, hre, hl1, hl2, hl3, hl4⟩ := hst
  refine W.block (W.sr (WL.m (WL.e (eff_call call171 (scut_ok (s := s) (sep := [0]) (Gives.to G) (by omega) h)) ?_)))
  rintro _ w ⟨hv, h⟩
  rw [hc1] at hv
  subst hv
  refine WL.m (WL.v (run_extract rfl rfl) (WL.v (run_extract rfl rfl) (WL.v (run_extract rfl rfl) (WL.a (WL.a (WL.z ?_))))))
  refine W.sr (WL.m (WL.e (eff_call call171 (scut_ok (s := it) (sep := [61]) (Gives.to G) (by omega) h)) ?_))
  rintro _ w ⟨hv, h⟩
  rw [hc2] at hv
  subst hv
  refine WL.m (WL.v (run_extract rfl rfl) (WL.v (run_extract rfl rfl) (WL.v (run_extract rfl rfl) (WL.a (WL.a (WL.z ?_))))))
  refine W.sr (WL.m (WL.m (WL.v (run_buildS (pl := qp1) (out := [.string _, .string _]) underlying216 zeroValue216 (fun w => by kernel_rfl) rfl (⟨⟨_, _, rfl, rfl, by decide⟩, ⟨⟨_, _, rfl, rfl, by decide⟩, trivial⟩⟩) rfl) (WL.e (eff_alloc h zeroValue216 rfl) ?_))))
  rintro _ w ⟨b13, rfl, h⟩
  refine WL.e (eff_storeW (vs := prCells (k, v)) h sizeOf216 rfl rfl rfl rfl rfl) ?_
  rintro _ w h
  refine WL.nil (W.seq (W.sr (WL.m (WL.v (run_not rfl) (WL.m (WL.m ?_))))))
  refine WL.v (run_not rfl) (WL.pf (WL.m (WL.v (run_loadB (vs := prCells (k, v)) h isAgg216 sizeOf216 rfl rfl rfl) (WL.e (eff_call call141 (right_ok (p := (k, v)) (by show k.length ≤ _; omega) (by show v.length ≤ _; omega) h)) ?_))))
  rintro _ w ⟨hv, h⟩
  rw [hrt] at hv
  subst hv
  refine WL.v (run_not rfl) (WL.pf (WL.m (WL.m (WL.m (WL.v (run_lookupT (p := k) (v := .bool false) underlying9 (On.mapTC (h.fetch (MapT bm kvs ck))).2 underlying214 zeroValue4 rfl rfl (by rw [lookT_none hnk]; rfl)) (WL.pf (WL.nil ?_)))))))
  refine W.cs (W.sr (WL.m (WL.m (WL.e (eff_mapUpdateT (p := k) (v := .bool true) underlying9 (h.fetch (MapT bm kvs ck)) underlying214 rfl rfl rfl) ?_))))
  rintro _ w h
  have hks2 : (putT kvs k (.bool true) ck).map (·.1) = kvs.map (·.1) ++ [k] := by
    rw [putT_keys, if_neg (by rw [List.any_eq_true]; rintro ⟨y, hy, hq⟩; exact hnk (List.mem_map.2 ⟨y, hy, by simpa using hq⟩))]
  refine WL.nil (W.sr (WL.m (WL.v (run_loadB (vs := prCells (k, v)) h isAgg216 sizeOf216 rfl rfl rfl) (WL.e (eff_mkSlice (zl := [.string (ByteArray.mk #[]), .string (ByteArray.mk #[])]) (out := [.string _, .string _]) h underlying207 sizeOf216 zeroValue216 (by decide) (by kernel_rfl) rfl rfl (by simp) (⟨⟨_, _, rfl, rfl, by decide⟩, trivial⟩) rfl rfl (by simp [maxLen])) ?_))))
  rintro _ w ⟨b57, rfl, h⟩
  refine WL.e (eff_app (c2 := 1) (bytes := 32) (h.fetch (Own 2 (.slice ao out.length co) out.length (out.flatMap prCells))) rfl rfl (h.cellsO (v := .slice (some ⟨b57, 0, none⟩) 1 1)) underlying207 rfl rfl rfl rfl rfl (by omega) (by omega) (by simp [Value.oneCell'])) ?_
  rintro v58 w ⟨a58, c58, hv58, h⟩
  have ev : out.flatMap prCells ++ prCells (k, v) = (out ++ [(k, v)]).flatMap prCells := by rw [List.flatMap_append]; simp
  have el : out.length + 1 = (out ++ [(k, v)]).length := by simp
  rw [show [Value.string ⟨k.toArray⟩, Value.string ⟨v.toArray⟩] = prCells (k, v) from rfl, ev, el] at h
  rw [el] at hv58
  have hor2 : (out ++ [(k, v)]) ++ r' = l := by rw [← hor, hre]; simp
  have hd3 : decT' f rs ((putT kvs k (.bool true) ck).map (·.1)) = some r' := by rw [hks2]; exact hd2
  refine WL.z (W.region (WL.m (WL.z ?_)))
  exact ⟨f, ⟨_, rs, out ++ [(k, v)], r', putT kvs k (.bool true) ck, clockT kvs k ck, a58, c58, ⟨by omega, by simp only [List.length_append, List.length_cons, List.length_nil]; omega⟩, hd3, hor2, mkE_of ⟨hv58, rfl, rfl, trivial⟩, h.to⟩, by show f < f + 1; omega⟩
 refine W.exit (W.seq ?_)
 have es : s = [] := by simpa using c12
 subst es
 have er := decT_nil hd
 subst er
 rw [List.append_nil] at hor
 subst hor
 refine W.region (WL.m (WL.e (eff_call call172 (clip_prs h)) ?_))
 rintro _ w ⟨rfl, h⟩
 refine WL.a (WL.z (W.ret (bodyQ.r2 (v1 := .slice _ _ _) (v2 := .int .i64 _) results149 rfl rfl ?_)))
 exact ⟨ao, rfl, h.to⟩
theorem parse_ok {s : List UInt8} {n : Nat} (hs : s.length ≤ 1000) (hp : Lib.parseIntB 64 s = .ok (n : Int)) (h : On W0 L w) : Calls Tryz.prog 208 #[.string ⟨s.toArray⟩, .int .i64 10, .int .i64 64] w (Ret fun v w' => v = .tuple #[.int .i64 (n : Int), .nilIface] ∧ On W0 L w') :=
 (Go.Proofs.Tryz.strconv_ParseInt_10_at64_ok ⟨s.toArray⟩ (by show s.toArray.size ≤ _; simp; omega) (n : Int) hp w).mono fun e w' he => by
   obtain ⟨rfl, rfl | ⟨t, rfl⟩⟩ := he
   · exact ⟨_, rfl, rfl, h⟩
   exact ⟨_, rfl, rfl, h.bytesWorld _ _⟩
theorem split_ok {s : List UInt8} {m : Int} (G : Gives L (GlP m)) (hs : s.length ≤ 1000000) (h : On W0 L w) : Calls Tryz.prog 206 #[.string ⟨s.toArray⟩, .string ⟨#[44]⟩] w (Ret fun v w' => ∃ b, v = .slice (some ⟨b, 0, none⟩) (splitL s).length (splitL s).length ∧ On W0 (Own 1 (.slice (some ⟨b, 0, none⟩) (splitL s).length (splitL s).length) (splitL s).length ((splitL s).map (fun t : List UInt8 => Value.string ⟨t.toArray⟩)) :: L) w') :=
 (Go.Proofs.Tryz.strings_Split ⟨s.toArray⟩ ⟨#[44]⟩ m w (by show s.toArray.size < _; simp; omega) (glCell h G) (by decide)).mono fun e w' he => by
   obtain ⟨rfl, rfl⟩ := he
   have e1 : Lib.countB ⟨s.toArray⟩ ⟨#[44]⟩ = Lib.count s [44] := by unfold Lib.countB; simp
   have hl := splitL_len s
   have hc : Lib.count s [44] ≤ s.length := by
     have := Lib.countB_mul_le ⟨#[44]⟩ (by decide) s.length ⟨s.toArray⟩ (by show s.toArray.size ≤ _; simp)
     rw [e1] at this
     have e2 : (⟨s.toArray⟩ : ByteArray).size = s.length := by show s.toArray.size = _; simp
     rw [e2] at this
     have e3 : (⟨#[44]⟩ : ByteArray).size = 1 := rfl
     rw [e3] at this; omega
   refine ⟨_, rfl, w.heap.size, by rw [e1, hl], ?_⟩
   have h2 := h.alloc (.cells ((Lib.splitB ⟨#[44]⟩ 0 (Lib.countB ⟨s.toArray⟩ ⟨#[44]⟩) ⟨s.toArray⟩).map Value.string).toArray 9)
   rw [e1, splitL_cells] at h2 ⊢
   have h3 : On W0 (blk w.heap.size ((splitL s).map (fun t : List UInt8 => Value.string ⟨t.toArray⟩)) 9 :: L) _ := h2
   exact Own.ofBlk h3 (by simp) (by have := maxLen_eq; omega)
theorem contains_ok {rows : List (List UInt8)} {x : List UInt8} {ax : Option Addr} {cx : Nat} (h0 : 0 < rows.length) (hn : rows.length ≤ 1000000) (h : On W0 L w) (C : Gives L (Cells 1 (.slice ax rows.length cx) rows.length (rows.map (fun t : List UInt8 => Value.string ⟨t.toArray⟩)))) : Calls Tryz.prog 174 #[.slice ax rows.length cx, .string ⟨x.toArray⟩] w (Ret fun v w' => v = .bool (rows.contains x) ∧ On W0 L w') := by
 obtain ⟨b, o, rfl⟩ := (h.readsTo C).addr h0
 obtain ⟨zs, hzs⟩ : ∃ zs, zs = rows.map fun t => (⟨t.toArray⟩ : ByteArray) := ⟨_, rfl⟩
 have hzl : zs.length = rows.length := by rw [hzs, List.length_map]
 have hc : ∀ j, j < zs.length → w.cell? ⟨b, o + j, none⟩ = some (.string (zs.getD j ByteArray.empty)) := by
   intro j hj
   refine (h.readsTo C).cell rfl h0 ?_
   rw [List.getElem?_map, List.getElem?_eq_getElem (show j < rows.length by omega)]
   subst hzs
   simp [List.getD, show j < rows.length by omega]
 refine (Go.Proofs.Tryz.slices_Contains_string b o rows.length cx zs ⟨x.toArray⟩ w (by omega) (by omega) hc).mono fun e w' he => ?_
 obtain ⟨rfl, rfl⟩ := he
 refine ⟨_, rfl, ?_, h⟩
 congr 1
 rw [List.take_of_length_le (by omega), Bool.eq_iff_iff, Lib.containsS_iff, List.contains_iff_mem, hzs, List.mem_map]
 constructor
 · rintro ⟨t, ht, e⟩
   have e2 : t = x := by have := congrArg (fun q : ByteArray => q.data.toList) e; simpa using this
   rwa [e2] at ht
 intro hm
 exact ⟨x, hm, rfl⟩
theorem tbool_ok {s : List UInt8} (h : On W0 L w) : Calls Tryz.prog 196 #[.string ⟨s.toArray⟩] w (Ret fun v w' => v = .tuple #[.bool (decide (s = [89, 101, 115])), .bool (decide (s = [89, 101, 115]) || decide (s = [78, 111]))] ∧ On W0 L w') := by
 refine enter func196 rfl ntmps196 rfl (W.sr (WL.a (WL.z (W.sr ?_))))
 refine WL.m (WL.v (run_eqlStrD (a := s) (b := [89, 101, 115]) rfl rfl) (WL.m ?_))
 refine WL.boolB (run_eqlStrD (a := s) (b := [89, 101, 115]) rfl rfl) rfl rfl (fun c7 => ?_) (fun c7 => ?_)
 ·
  refine WL.m (WL.s (WL.s (WL.pt (WL.a (WL.z (W.ret ?_))))))
  refine bodyQ.r2 (v1 := .bool _) (v2 := .bool _) results196 rfl rfl ?_
  have e : decide (s = [89, 101, 115]) = true := c7
  rw [e]
  exact ⟨rfl, h⟩
 refine WL.m (WL.m (WL.v (run_eqlStrD (a := s) (b := [78, 111]) rfl rfl) (WL.pf (WL.a (WL.z (W.ret ?_))))))
 refine bodyQ.r2 (v1 := .bool _) (v2 := .bool _) results196 rfl rfl ?_
 have e : decide (s = [89, 101, 115]) = false := c7
 rw [e]
 exact ⟨rfl, h⟩
theorem tand_ok {x b : Bool} {s : List UInt8} (hs : boolB s = some x) (h : On W0 L w) : Calls Tryz.prog 190 #[.string ⟨(wordB b).toArray⟩, .string ⟨s.toArray⟩] w (Ret fun v w' => v = .tuple #[.string ⟨(wordB (b && x)).toArray⟩, .bool true] ∧ On W0 L w') := by
 refine enter func190 rfl ntmps190 rfl ?_
 have hbs := boolB_some hs
 obtain ⟨hb1, hb2⟩ := hbs
 have hbw := boolB_word b
 obtain ⟨hw1, hw2⟩ := hbw
 refine W.sr (WL.a (WL.z (W.sr (WL.m ?_))))
 refine WL.e (eff_call call196 (tbool_ok (s := wordB b) h)) ?_
 rintro _ w ⟨hv, h⟩
 rw [hw2, hw1] at hv
 subst hv
 refine WL.m (WL.v (run_extract rfl rfl) (WL.v (run_extract rfl rfl) (WL.a (WL.z (W.sr ?_)))))
 refine WL.m (WL.e (eff_call call196 (tbool_ok (s := s) h)) ?_)
 rintro _ w ⟨hv, h⟩
 rw [hb2, hb1] at hv
 subst hv
 refine WL.m (WL.v (run_extract rfl rfl) (WL.v (run_extract rfl rfl) (WL.a (WL.z (W.seq (W.block ?_))))))
 refine W.sr (WL.m (WL.v (run_not rfl) (WL.m (WL.m (WL.v (run_not rfl) (WL.pf ?_))))))
 refine WL.z (W.cf (W.sr ?_))
 refine WL.boolB run_move rfl rfl (fun c28 => ?_) (fun c28 => ?_)
 ·
  refine WL.m (WL.m (WL.pt (WL.z ?_)))
  refine W.condB rfl (fun c9 => ?_) (fun c9 => ?_)
  ·
   refine W.sr (WL.a (WL.z (W.ret (bodyQ.r2 (v1 := .string _) (v2 := .bool _) results190 rfl rfl ?_))))
   subst c28; subst c9
   exact ⟨by rw [show (true && true) = true from rfl, word_yes], h⟩
  refine W.skip (W.sr (WL.a (WL.z (W.ret (bodyQ.r2 (v1 := .string _) (v2 := .bool _) results190 rfl rfl ?_)))))
  subst c28; subst c9
  exact ⟨by simp only [Bool.and_false, Bool.false_and, word_no], h⟩
 refine WL.m (WL.s (WL.pf (WL.z (W.cs (W.seq ?_)))))
 refine W.region (WL.a (WL.z (W.ret (bodyQ.r2 (v1 := .string _) (v2 := .bool _) results190 rfl rfl ?_))))
 subst c28
 exact ⟨by simp only [Bool.and_false, Bool.false_and, word_no], h⟩
theorem nsign_ok {c : UInt8} (h : On W0 L w) : Calls Tryz.prog 205 #[.int .u8 (c.toNat : Int)] w (Ret fun v w' => v = .bool (nsB c) ∧ On W0 L w') := by
 refine enter func205 rfl ntmps205 rfl (W.sr (WL.z (W.sr (WL.m ?_))))
 refine WL.e (eff_call call160 (inside_ok (c := c) (lo := 97) (hi := 122) h)) ?_
 rintro _ w ⟨rfl, h⟩
 refine WL.boolB run_move rfl rfl (fun c5 => ?_) (fun c5 => ?_)
 ·
  refine WL.s (WL.s (WL.pt (WL.m (WL.s (WL.s (WL.pt (WL.m ?_)))))))
  refine WL.s (WL.s (WL.pt (WL.m (WL.s (WL.s (WL.pt (WL.a ?_)))))))
  refine WL.nil (W.ret (bodyQ.r1 (v := .bool _) results205 rfl ?_))
  have e : nsB c = true := by unfold nsB; rw [c5]; rfl
  rw [e]
  exact ⟨rfl, h⟩
 refine WL.m (WL.e (eff_call call160 (inside_ok (c := c) (lo := 48) (hi := 57) h)) ?_)
 rintro _ w ⟨rfl, h⟩
 refine WL.boolB (run_pickF rfl) rfl rfl (fun c8 => ?_) (fun c8 => ?_)
 ·
  refine WL.m (WL.s (WL.s (WL.pt (WL.m (WL.s (WL.s (WL.pt ?_)))))))
  refine WL.m (WL.s (WL.s (WL.pt (WL.z (W.ret (bodyQ.r1 (v := .bool _) results205 rfl ?_))))))
  have e : nsB c = true := by unfold nsB; rw [c5, c8]; rfl
  rw [e]
  exact ⟨rfl, h⟩
 refine WL.m (WL.m ?_)
 refine WL.q (run_eql rfl rfl) (fun c11 => ?_) (fun c11 => ?_)
 ·
  refine WL.pf (WL.m (WL.s (WL.s (WL.pt (WL.m (WL.s (WL.s ?_)))))))
  refine WL.pt (WL.z (W.ret (bodyQ.r1 (v := .bool _) results205 rfl ?_)))
  have e : nsB c = true := by unfold nsB; rw [c5, c8, decide_eq_true c11]; rfl
  rw [e]
  exact ⟨rfl, h⟩
 refine WL.pf (WL.m (WL.m ?_))
 refine WL.q (run_eql rfl rfl) (fun c15 => ?_) (fun c15 => ?_)
 ·
  refine WL.pf (WL.m (WL.s (WL.s (WL.pt (WL.z (W.ret ?_))))))
  refine bodyQ.r1 (v := .bool _) results205 rfl ?_
  have e : nsB c = true := by unfold nsB; rw [c5, c8, decide_eq_false c11, decide_eq_true c15]; rfl
  rw [e]
  exact ⟨rfl, h⟩
 refine WL.pf (WL.m (WL.m (WL.v (run_eql rfl rfl) (WL.pf (WL.z (W.ret ?_))))))
 refine bodyQ.r1 (v := .bool _) results205 rfl ?_
 have e : nsB c = decide (((c.toNat : Nat) : Int) = 58) := by unfold nsB; rw [c5, c8, decide_eq_false c11, decide_eq_false c15]; rfl
 rw [e]
 exact ⟨rfl, h⟩
theorem tname_ok {s : List UInt8} (hs : s.length ≤ 1000000) (h : On W0 L w) : Calls Tryz.prog 185 #[.string ⟨s.toArray⟩] w (Ret fun v w' => v = .bool (nameB s) ∧ On W0 L w') := by
 refine enter func185 rfl ntmps185 rfl ?_
 have htp := Lib.trimPrefix_le s [105, 113, 110, 46]
 have ob_ : ∃ t, t = Lib.trimPrefix s [105, 113, 110, 46] := ⟨_, rfl⟩
 obtain ⟨t, ht⟩ := ob_
 rw [← ht] at htp
 refine W.sr (WL.z (W.sr (WL.m (WL.e (eff_call call204 (scutp_ok (s := s) (p := [105, 113, 110, 46]) h)) ?_))))
 rintro _ w ⟨hv, h⟩
 rw [← ht] at hv
 subst hv
 refine WL.m (WL.v (run_extract rfl rfl) (WL.v (run_extract rfl rfl) (WL.a (WL.z (W.sr ?_)))))
 refine WL.boolB run_move rfl rfl (fun c9 => ?_) (fun c9 => ?_)
 ·
  refine WL.m (WL.m ?_)
  refine WL.q (run_neqStrD (a := t) (b := []) rfl rfl) (fun c12 => ?_) (fun c12 => ?_)
  ·
   refine WL.pt (WL.m (WL.m (WL.v (run_lenStr underlying9 rfl) ?_)))
   refine WL.q (run_leq rfl rfl) (fun c17 => ?_) (fun c17 => ?_)
   ·
    refine WL.pt (WL.m (WL.m (WL.e (eff_call call162 (of_ok (s := t) (f := 205) (caps := #[]) (p := nsB) (by omega) h call205 (fun c w h => nsign_ok h))) ?_)))
    rintro _ w ⟨rfl, h⟩
    refine WL.pt (WL.z (W.ret (bodyQ.r1 (v := .bool _) results185 rfl ?_)))
    have hA : decide (0 < t.length) = true := decide_eq_true (List.length_pos_iff.2 c12)
    have hB : decide (t.length ≤ 219) = true := decide_eq_true (by have q : ((t.length : Nat) : Int) ≤ 219 := c17; omega)
    have e : nameB s = t.all nsB := by unfold nameB; rw [← ht, c9, hA, hB]; simp
    rw [e]
    exact ⟨rfl, h⟩
   refine WL.pt (WL.m (WL.s (WL.s (WL.pf (WL.z (W.ret ?_))))))
   refine bodyQ.r1 (v := .bool _) results185 rfl ?_
   have hA : decide (0 < t.length) = true := decide_eq_true (List.length_pos_iff.2 c12)
   have hB : decide (t.length ≤ 219) = false := decide_eq_false (by have q : ¬ ((t.length : Nat) : Int) ≤ 219 := c17; omega)
   have e : nameB s = false := by unfold nameB; rw [← ht, c9, hA, hB]; simp
   rw [e]
   exact ⟨rfl, h⟩
  refine WL.pt (WL.m (WL.s (WL.s (WL.s (WL.pf (WL.m (WL.s ?_)))))))
  refine WL.s (WL.pf (WL.z (W.ret (bodyQ.r1 (v := .bool _) results185 rfl ?_))))
  have hA : decide (0 < t.length) = false := decide_eq_false (fun q => c12 (List.length_pos_iff.1 q))
  have e : nameB s = false := by unfold nameB; rw [← ht, c9, hA]; simp
  rw [e]
  exact ⟨rfl, h⟩
 refine WL.m (WL.s (WL.s (WL.pf (WL.m (WL.s (WL.s (WL.s ?_)))))))
 refine WL.pf (WL.m (WL.s (WL.s (WL.pf (WL.z (W.ret ?_))))))
 refine bodyQ.r1 (v := .bool _) results185 rfl ?_
 have e : nameB s = false := by unfold nameB; rw [← ht, c9]; simp
 rw [e]
 exact ⟨rfl, h⟩
theorem digit_ok {c : UInt8} {b4 : Nat} (h : On W0 (blk b4 [.int .i64 10] 3 :: L) w) : Calls Tryz.prog 207 #[.int .u8 (c.toNat : Int), .pointer (some ⟨b4, 0, none⟩)] w (Ret fun v w' => v = .bool (digitB c) ∧ On W0 (blk b4 [.int .i64 10] 3 :: L) w') := by
 refine enter func207 rfl ntmps207 rfl (W.sr (WL.z (W.sr (WL.m ?_))))
 refine WL.e (eff_call call160 (inside_ok (c := c) (lo := 48) (hi := 57) h)) ?_
 rintro _ w ⟨rfl, h⟩
 refine WL.boolB run_move rfl rfl (fun c6 => ?_) (fun c6 => ?_)
 ·
  refine WL.s (WL.s (WL.s (WL.s (WL.s (WL.s (WL.s (WL.s ?_)))))))
  refine WL.s (WL.s (WL.pt (WL.z (W.ret (bodyQ.r1 (v := .bool _) results207 rfl ?_)))))
  have e : digitB c = true := c6
  rw [e]
  exact ⟨rfl, h⟩
 refine WL.l isAgg3 rfl (h.cellB rfl) (WL.v (run_eqlF rfl rfl (by omega)) (WL.m (WL.s (WL.s (WL.s (WL.s (WL.s ?_)))))))
 refine WL.s (WL.pf (WL.pf (WL.z (W.ret (bodyQ.r1 (v := .bool _) results207 rfl ?_)))))
 have e : digitB c = false := c6
 rw [e]
 exact ⟨rfl, h⟩
theorem number_ok {s : List UInt8} {n : Nat} (hs : numB s = some n) (h : On W0 L w) : Calls Tryz.prog 195 #[.string ⟨s.toArray⟩] w (Ret fun v w' => v = .tuple #[.int .i64 (n : Int), .bool true] ∧ On W0 L w') := by
 refine enter func195 rfl ntmps195 rfl ?_
 have hns := numB_some hs
 obtain ⟨hp, hz, hl0, hl9, hal, hpi⟩ := hns
 have ob_ : ∃ c, s[0]? = some c := ⟨s[0]'(by omega), List.getElem?_eq_getElem _⟩
 obtain ⟨c0, hc0⟩ := ob_
 have hcd : s.getD 0 0 = c0 := by rw [List.getD, hc0]; rfl
 rw [hcd] at hz
 refine W.sr (WL.a (WL.z (W.sr (WL.e (eff_alloc h zeroValue3 rfl) ?_))))
 rintro _ w ⟨b4, rfl, h⟩
 refine WL.e (eff_store (v := .int .i64 _) h sizeOf3 rfl rfl rfl rfl rfl) ?_
 rintro _ w h
 try simp only [Nat.zero_add, Nat.add_zero, List.set_cons_zero, List.set_cons_succ] at h
 refine WL.z (W.seq (W.sr (WL.m (WL.e (eff_call call204 (scutp_ok (s := s) (p := [48, 120]) h)) ?_))))
 rintro _ w ⟨hv, h⟩
 rw [hp] at hv
 subst hv
 refine WL.m (WL.v (run_extract rfl rfl) (WL.v (run_extract rfl rfl) (WL.a (WL.z (W.sr ?_)))))
 refine WL.m (WL.nil (W.cf (W.sr (WL.m (WL.v (run_lenStr underlying9 rfl) ?_)))))
 refine WL.q (run_gtr rfl rfl) (fun c20 => ?_) (fun c20 => ?_)
 ·
  refine WL.m (WL.m (WL.v (run_indexStr underlying9 rfl rfl ((ba_get s 0).trans hc0)) (WL.v (run_eql rfl rfl) (WL.pt (WL.nil ?_)))))
  refine W.condIf rfl (fun c7 => ?_) (fun c7 => ?_)
  ·
   exact (hz ⟨by have q : ((s.length : Nat) : Int) > 1 := c20; omega, c7⟩).elim
  refine W.skip (W.sr (WL.v run_makeFunc (WL.z (W.seq (W.seq ?_)))))
  refine W.region (WL.m ?_)
  refine WL.q (run_eqlStrD (a := s) (b := []) rfl rfl) (fun c28 => ?_) (fun c28 => ?_)
  ·
   exact (hl0 (by rw [c28]; rfl)).elim
  refine WL.m (WL.m (WL.v (run_lenStr underlying9 rfl) (WL.m (WL.v (run_gtrF rfl rfl (by show ¬ ((s.length : Nat) : Int) > 9; omega)) (WL.pf (WL.m (WL.m ?_)))))))
  refine WL.m (WL.e (eff_call call162 (of_ok (s := s) (f := 207) (caps := #[.pointer (some ⟨b4, 0, none⟩)]) (p := digitB) (by omega) h call207 (fun c w h => digit_ok h))) ?_)
  rintro _ w ⟨hv, h⟩
  rw [hal] at hv
  subst hv
  refine WL.v (run_not rfl) (WL.pf (WL.nil (W.cs (W.sr (WL.m ?_)))))
  refine WL.l isAgg3 rfl (h.cellB rfl) (WL.e (eff_call call208 (parse_ok (s := s) (n := n) (by omega) hpi h)) ?_)
  rintro _ w ⟨rfl, h⟩
  refine WL.m (WL.v (run_extract rfl rfl) (WL.v (run_extract rfl rfl) (WL.a (WL.z (W.sr ?_)))))
  refine WL.m (WL.a (WL.z (W.ret (bodyQ.r2 (v1 := .int .i64 _) (v2 := .bool _) results195 rfl rfl ?_))))
  exact ⟨rfl, h.to⟩
 refine WL.m (WL.s (WL.s (WL.s (WL.pf (WL.nil (W.cs ?_))))))
 refine W.sr (WL.v run_makeFunc (WL.z (W.seq (W.sr ?_))))
 refine WL.m ?_
 refine WL.q (run_eqlStrD (a := s) (b := []) rfl rfl) (fun c28 => ?_) (fun c28 => ?_)
 ·
  exact (hl0 (by rw [c28]; rfl)).elim
 refine WL.m (WL.m (WL.v (run_lenStr underlying9 rfl) (WL.m (WL.v (run_gtrF rfl rfl (by show ¬ ((s.length : Nat) : Int) > 9; omega)) (WL.pf (WL.m (WL.m ?_)))))))
 refine WL.m (WL.e (eff_call call162 (of_ok (s := s) (f := 207) (caps := #[.pointer (some ⟨b4, 0, none⟩)]) (p := digitB) (by omega) h call207 (fun c w h => digit_ok h))) ?_)
 rintro _ w ⟨hv, h⟩
 rw [hal] at hv
 subst hv
 refine WL.v (run_not rfl) (WL.pf (WL.nil (W.cs (W.sr (WL.m ?_)))))
 refine WL.l isAgg3 rfl (h.cellB rfl) (WL.e (eff_call call208 (parse_ok (s := s) (n := n) (by omega) hpi h)) ?_)
 rintro _ w ⟨rfl, h⟩
 refine WL.m (WL.v (run_extract rfl rfl) (WL.v (run_extract rfl rfl) (WL.a (WL.z (W.sr ?_)))))
 refine WL.m (WL.a (WL.z (W.ret (bodyQ.r2 (v1 := .int .i64 _) (v2 := .bool _) results195 rfl rfl ?_))))
 exact ⟨rfl, h.to⟩
theorem choose_ok {s my c : List UInt8} {m : Int} (G : Gives L (GlP m)) (hs1 : s.length ≤ 100000) (hs2 : my.length ≤ 100000) (he : chooseB s my = some c) (h : On W0 L w) : Calls Tryz.prog 192 #[.string ⟨s.toArray⟩, .string ⟨my.toArray⟩] w (Ret fun v w' => v = .tuple #[.string ⟨c.toArray⟩, .bool true] ∧ On W0 L w') := by
 refine enter func192 rfl ntmps192 rfl ?_
 have ob_ : ∃ r, r = splitL s := ⟨_, rfl⟩
 obtain ⟨r1, hr1⟩ := ob_
 have ob_ : ∃ r, r = splitL my := ⟨_, rfl⟩
 obtain ⟨r2, hr2⟩ := ob_
 have hr1l : r1.length ≤ 100001 := by rw [hr1]; exact splitL_small hs1
 have hr2l : r2.length ≤ 100001 := by rw [hr2]; exact splitL_small hs2
 have hr20 : 0 < r2.length := by rw [hr2, splitL_len]; omega
 unfold chooseB at he
 rw [← hr1, ← hr2] at he
 refine W.sr (WL.a (WL.z (W.sr (WL.m ?_))))
 refine WL.e (eff_call call206 (split_ok (s := my) (Gives.to G) (by omega) h)) ?_
 rintro _ w ⟨b2, rfl, h⟩
 rw [← hr2] at h ⊢
 refine WL.z (W.seq (W.sr (WL.m (WL.e (eff_call call206 (split_ok (s := s) (Gives.to G) (by omega) h)) ?_))))
 rintro _ w ⟨b1, rfl, h⟩
 rw [← hr1] at h ⊢
 refine WL.v (run_lenSlice underlying131 rfl) (WL.m (WL.nil (W.block ?_)))
 refine W.loop (fun (k : Nat) env w => (k ≤ r1.length ∧ ((r1.drop k).find? fun t => r2.contains t) = some c) ∧ ∃ (j : Env), env = mkE j [(6, .slice (some ⟨b2, 0, none⟩) r2.length r2.length), (12, .slice (some ⟨b1, 0, none⟩) r1.length r1.length), (13, .int .i64 (r1.length : Int)), (14, .int .i64 (k : Int))] ∧ On W0 (Own 1 (.slice (some ⟨b1, 0, none⟩) r1.length r1.length) r1.length (r1.map (fun t : List UInt8 => Value.string ⟨t.toArray⟩)) :: Own 1 (.slice (some ⟨b2, 0, none⟩) r2.length r2.length) r2.length (r2.map (fun t : List UInt8 => Value.string ⟨t.toArray⟩)) :: L) w) (fun k => r1.length - k) (0) ?_ ?_
 · exact ⟨⟨Nat.zero_le _, he⟩, _, mkE_of ⟨rfl, rfl, rfl, rfl, trivial⟩, h⟩
 clear h
 rintro k env w ⟨⟨hk, hfi⟩, j, rfl, h⟩
 refine W.sr (WL.v (run_lss rfl rfl) (WL.nil (W.seq ?_)))
 refine W.condIf rfl (fun c6 => ?_) (fun c6 => ?_)
 ·
  refine W.skip (W.seq ?_)
  have ob_ : ∃ x, r1[k]? = some x := ⟨r1[k]'(by omega), List.getElem?_eq_getElem _⟩
  obtain ⟨x, hx⟩ := ob_
  have hd : r1.drop k = x :: r1.drop (k + 1) := drop_consT hx
  rw [hd, List.find?_cons] at hfi
  refine W.block (W.sr (WL.v (run_indexAddr underlying131 sizeOf9 rfl rfl (by omega) (by omega)) (WL.l isAgg9 rfl ((h.cellsO (v := .slice (some ⟨b1, 0, none⟩) r1.length r1.length)).elem (i := k) (vs := [.string ⟨x.toArray⟩]) (by omega) (by rw [Nat.mul_one, ← List.map_drop, hd]; rfl) 0 _ rfl) (WL.z (W.seq ?_)))))
  refine W.region (WL.m (WL.m (WL.e (eff_call call174 (contains_ok (rows := r2) (x := x) (ax := some ⟨b2, 0, none⟩) (cx := r2.length) hr20 (by omega) h Gives.ownO)) ?_)))
  rintro _ w ⟨rfl, h⟩
  refine WL.nil ?_
  refine W.condB rfl (fun c12 => ?_) (fun c12 => ?_)
  ·
   refine W.sr (WL.m (WL.a (WL.z (W.ret (bodyQ.r2 (v1 := .string _) (v2 := .bool _) results192 rfl rfl ?_)))))
   rw [c12] at hfi
   cases hfi
   exact ⟨rfl, h.to⟩
  refine W.skip (W.region (WL.v (run_incN rfl rfl (by omega)) (WL.m (WL.nil ?_))))
  rw [c12] at hfi
  exact ⟨k + 1, ⟨⟨by omega, hfi⟩, _, mkE_of ⟨rfl, rfl, rfl, rfl, trivial⟩, h.to⟩, by show r1.length - (k + 1) < r1.length - k; omega⟩
 refine W.exit (W.sr (WL.a (WL.z (W.ret (bodyQ.r2 (v1 := .string _) (v2 := .bool _) results192 rfl rfl ?_)))))
 have ek : k = r1.length := by omega
 rw [ek, List.drop_length] at hfi
 cases hfi
theorem word_ok {b : Bool} (h : On W0 L w) : Calls Tryz.prog 143 #[.bool b] w (Ret fun v w' => v = .string ⟨(wordB b).toArray⟩ ∧ On W0 L w') := by
 refine enter func143 rfl ntmps143 rfl (W.sr (WL.z (W.seq (W.sr ?_))))
 refine WL.m (WL.nil ?_)
 refine W.condB rfl (fun c2 => ?_) (fun c2 => ?_)
 ·
  refine W.sr (WL.z (W.ret (bodyQ.r1 (v := .string _) results143 rfl ?_)))
  subst c2
  exact ⟨rfl, h⟩
 refine W.skip (W.sr (WL.z (W.ret (bodyQ.r1 (v := .string _) results143 rfl ?_))))
 subst c2
 exact ⟨rfl, h⟩
theorem ours_ok (h : On W0 L w) : Calls Tryz.prog 151 #[] w (Ret fun v w' => v = .agg (Pm.cells ours).toArray ∧ On W0 L w') := by
 refine enter func151 rfl ntmps151 rfl (W.sr (WL.e (eff_alloc h zeroValue127 rfl) ?_))
 rintro _ w ⟨b0, rfl, h⟩
 refine WL.nil (W.sr (WL.v (run_buildS (pl := qp0) (out := [.string _, .int .i64 _, .int .i64 _, .bool _, .bool _]) underlying127 zeroValue127 (fun w => by kernel_rfl) rfl (⟨⟨_, _, rfl, rfl, by decide⟩, ⟨⟨_, _, rfl, rfl, by decide⟩, ⟨⟨_, _, rfl, rfl, by decide⟩, ⟨⟨_, _, rfl, rfl, by decide⟩, trivial⟩⟩⟩⟩) rfl) (WL.e (eff_storeW (vs := [.string _, .int .i64 _, .int .i64 _, .bool _, .bool _]) h sizeOf127 rfl rfl rfl rfl rfl) ?_)))
 rintro _ w h
 refine WL.nil (W.ret (bodyQ.rcB (vs := [.string _, .int .i64 _, .int .i64 _, .bool _, .bool _]) h results151 isAgg127 sizeOf127 rfl rfl rfl ?_))
 exact ⟨rfl, h.tail⟩
theorem sizeB_some {n k : Nat} {v : List UInt8} (h : sizeB n v = some k) : ∃ x, numB v = some x ∧ 512 ≤ x ∧ x ≤ 16777215 ∧ k = min n x := by
 unfold sizeB at h
 cases hn : numB v with
 | none => rw [hn] at h; cases h
 | some x =>
   rw [hn] at h
   simp only [Option.bind_some] at h
   split at h
   · cases h
   cases h; exact ⟨x, rfl, by omega, by omega, rfl⟩
theorem size1_ok {n k b0 : Nat} {x0 x2 x3 x4 : Value} {s : List UInt8} (hs : sizeB n s = some k) (h : On W0 (blk b0 [x0, .int .i64 (n : Int), x2, x3, x4] 127 :: L) w) : Calls Tryz.prog 187 #[.pointer (some ⟨b0, 1, none⟩), .string ⟨s.toArray⟩] w (Ret fun v w' => v = .bool true ∧ On W0 (blk b0 [x0, .int .i64 (k : Int), x2, x3, x4] 127 :: L) w') := by
 refine enter func187 rfl ntmps187 rfl ?_
 have hss := sizeB_some hs
 obtain ⟨x, hx, hx1, hx2, hk⟩ := hss
 refine W.sr (WL.z (W.sr (WL.m (WL.e (eff_call call195 (number_ok (n := x) hx h)) ?_))))
 rintro _ w ⟨rfl, h⟩
 refine WL.m (WL.v (run_extract rfl rfl) (WL.v (run_extract rfl rfl) (WL.a (WL.z (W.seq (W.seq ?_))))))
 refine W.region (WL.m (WL.v (run_not rfl) (WL.m (WL.m (WL.v (run_lssF rfl rfl (by omega)) (WL.pf (WL.m ?_)))))))
 refine WL.m (WL.v (run_gtrF rfl rfl (by omega)) (WL.pf (WL.nil (W.cs (W.sr ?_)))))
 refine WL.m (WL.m (WL.n rfl (WL.l isAgg3 rfl (h.cellB rfl) (WL.m (WL.v (run_minI rfl rfl) (WL.n rfl (WL.e (eff_store (v := .int .i64 _) h sizeOf3 rfl rfl rfl rfl rfl) ?_)))))))
 rintro _ w h
 try simp only [Nat.zero_add, Nat.add_zero, List.set_cons_zero, List.set_cons_succ] at h
 refine WL.nil (W.sr (WL.z (W.ret (bodyQ.r1 (v := .bool _) results187 rfl ?_))))
 have ek : (k : Int) = min (n : Int) (x : Int) := by rw [hk]; omega
 rw [ek]
 exact ⟨rfl, h⟩
theorem size2_ok {n k b0 : Nat} {x0 x1 x3 x4 : Value} {s : List UInt8} (hs : sizeB n s = some k) (h : On W0 (blk b0 [x0, x1, .int .i64 (n : Int), x3, x4] 127 :: L) w) : Calls Tryz.prog 187 #[.pointer (some ⟨b0, 2, none⟩), .string ⟨s.toArray⟩] w (Ret fun v w' => v = .bool true ∧ On W0 (blk b0 [x0, x1, .int .i64 (k : Int), x3, x4] 127 :: L) w') := by
 refine enter func187 rfl ntmps187 rfl ?_
 have hss := sizeB_some hs
 obtain ⟨x, hx, hx1, hx2, hk⟩ := hss
 refine W.sr (WL.z (W.sr (WL.m (WL.e (eff_call call195 (number_ok (n := x) hx h)) ?_))))
 rintro _ w ⟨rfl, h⟩
 refine WL.m (WL.v (run_extract rfl rfl) (WL.v (run_extract rfl rfl) (WL.a (WL.z (W.seq (W.seq ?_))))))
 refine W.region (WL.m (WL.v (run_not rfl) (WL.m (WL.m (WL.v (run_lssF rfl rfl (by omega)) (WL.pf (WL.m ?_)))))))
 refine WL.m (WL.v (run_gtrF rfl rfl (by omega)) (WL.pf (WL.nil (W.cs (W.sr ?_)))))
 refine WL.m (WL.m (WL.n rfl (WL.l isAgg3 rfl (h.cellB rfl) (WL.m (WL.v (run_minI rfl rfl) (WL.n rfl (WL.e (eff_store (v := .int .i64 _) h sizeOf3 rfl rfl rfl rfl rfl) ?_)))))))
 rintro _ w h
 try simp only [Nat.zero_add, Nat.add_zero, List.set_cons_zero, List.set_cons_succ] at h
 refine WL.nil (W.sr (WL.z (W.ret (bodyQ.r1 (v := .bool _) results187 rfl ?_))))
 have ek : (k : Int) = min (n : Int) (x : Int) := by rw [hk]; omega
 rw [ek]
 exact ⟨rfl, h⟩
theorem key1_ok {b0 : Nat} {p : Pm} {s : List UInt8} (hl : s.length ≤ 1000) (hn : nameB s = true) (h : On W0 (blk b0 p.cells 127 :: L) w) : Calls Tryz.prog 184 #[.pointer (some ⟨b0, 0, none⟩), .string ⟨s.toArray⟩] w (Ret fun v w' => v = .tuple #[.string ⟨#[]⟩, .bool false, .bool true] ∧ On W0 (blk b0 (Pm.cells { p with name := s }) 127 :: L) w') := by
 refine enter func184 rfl ntmps184 rfl ?_
 have h : On W0 (blk b0 [.string ⟨p.name.toArray⟩, .int .i64 (p.maxd : Int), .int .i64 (p.burst : Int), .bool p.imm, .bool p.dig] 127 :: _) w := h
 refine W.sr (WL.a (WL.a (WL.z (W.sr ?_))))
 refine WL.m (WL.m (WL.n rfl (WL.f 0 underlying127 rfl sizeOf9 rfl rfl (WL.e (eff_store (v := .string _) h sizeOf9 rfl rfl rfl rfl rfl) ?_))))
 rintro _ w h
 try simp only [Nat.zero_add, Nat.add_zero, List.set_cons_zero, List.set_cons_succ] at h
 refine WL.nil (W.sr (WL.m (WL.e (eff_call call185 (tname_ok (s := s) (by omega) h)) ?_)))
 rintro _ w ⟨rfl, h⟩
 refine WL.a (WL.a (WL.z (W.ret (bodyQ.r3 (v1 := .string _) (v2 := .bool _) (v3 := .bool _) results184 rfl rfl rfl ?_))))
 rw [hn]
 exact ⟨rfl, h⟩
theorem key2_ok {b0 : Nat} {p : Pm} {s : List UInt8} {k : Nat} (hs : sizeB p.maxd s = some k) (h : On W0 (blk b0 p.cells 127 :: L) w) : Calls Tryz.prog 186 #[.pointer (some ⟨b0, 0, none⟩), .string ⟨s.toArray⟩] w (Ret fun v w' => v = .tuple #[.string ⟨#[]⟩, .bool false, .bool true] ∧ On W0 (blk b0 (Pm.cells { p with maxd := k }) 127 :: L) w') := by
 refine enter func186 rfl ntmps186 rfl ?_
 have h : On W0 (blk b0 [.string ⟨p.name.toArray⟩, .int .i64 (p.maxd : Int), .int .i64 (p.burst : Int), .bool p.imm, .bool p.dig] 127 :: _) w := h
 refine W.sr (WL.a (WL.a (WL.z (W.sr ?_))))
 refine WL.m (WL.n rfl (WL.f 1 underlying127 rfl sizeOf3 rfl rfl (WL.m (WL.e (eff_call call187 (size1_ok (n := p.maxd) (k := k) hs h)) ?_))))
 rintro _ w ⟨rfl, h⟩
 refine WL.a (WL.a (WL.z (W.ret (bodyQ.r3 (v1 := .string _) (v2 := .bool _) (v3 := .bool _) results186 rfl rfl rfl ?_))))
 exact ⟨rfl, h⟩
theorem key3_ok {b0 : Nat} {p : Pm} {s : List UInt8} {k : Nat} {m : Int} (G : Gives L (GlP m)) (hb : p.burst ≤ 1000000) (hs : sizeB p.burst s = some k) (h : On W0 (blk b0 p.cells 127 :: L) w) : Calls Tryz.prog 188 #[.pointer (some ⟨b0, 0, none⟩), .string ⟨s.toArray⟩] w (Ret fun v w' => v = .tuple #[.string ⟨(itoaB k).toArray⟩, .bool true, .bool true] ∧ On W0 (blk b0 (Pm.cells { p with burst := k }) 127 :: L) w') := by
 refine enter func188 rfl ntmps188 rfl ?_
 have h : On W0 (blk b0 [.string ⟨p.name.toArray⟩, .int .i64 (p.maxd : Int), .int .i64 (p.burst : Int), .bool p.imm, .bool p.dig] 127 :: _) w := h
 have hk : k ≤ 1000000 := by
   have ob_ := sizeB_some hs
   obtain ⟨x, _, _, _, e⟩ := ob_
   omega
 refine W.sr (WL.a (WL.a (WL.z (W.sr ?_))))
 refine WL.m (WL.n rfl (WL.f 2 underlying127 rfl sizeOf3 rfl rfl (WL.m (WL.e (eff_call call187 (size2_ok (n := p.burst) (k := k) hs h)) ?_))))
 rintro _ w ⟨rfl, h⟩
 refine WL.z (W.sr (WL.m (WL.n rfl (WL.c 2 underlying127 rfl sizeOf3 rfl isAgg3 h rfl ?_))))
 refine WL.e (eff_call call142 (itoa_ok (n := k) (Gives.to G) hk h)) ?_
 rintro _ w ⟨rfl, h⟩
 rw [itoaB_eq hk]
 refine WL.m (WL.a (WL.a (WL.z (W.ret (bodyQ.r3 (v1 := .string _) (v2 := .bool _) (v3 := .bool _) results188 rfl rfl rfl ?_)))))
 exact ⟨rfl, h⟩
theorem key4_ok {b0 : Nat} {p : Pm} {s : List UInt8} {x : Bool} (hs : boolB s = some x) (h : On W0 (blk b0 p.cells 127 :: L) w) : Calls Tryz.prog 189 #[.pointer (some ⟨b0, 0, none⟩), .string ⟨s.toArray⟩] w (Ret fun v w' => v = .tuple #[.string ⟨(wordB (p.imm && x)).toArray⟩, .bool true, .bool true] ∧ On W0 (blk b0 (Pm.cells { p with imm := p.imm && x }) 127 :: L) w') := by
 refine enter func189 rfl ntmps189 rfl ?_
 have h : On W0 (blk b0 [.string ⟨p.name.toArray⟩, .int .i64 (p.maxd : Int), .int .i64 (p.burst : Int), .bool p.imm, .bool p.dig] 127 :: _) w := h
 refine W.sr (WL.a (WL.a (WL.z (W.sr ?_))))
 refine WL.m (WL.n rfl (WL.c 3 underlying127 rfl sizeOf4 rfl isAgg4 h rfl (WL.e (eff_call call143 (word_ok (b := p.imm) h)) ?_)))
 rintro _ w ⟨rfl, h⟩
 refine WL.m (WL.e (eff_call call190 (tand_ok (x := x) (b := p.imm) hs h)) ?_)
 rintro _ w ⟨rfl, h⟩
 refine WL.m (WL.v (run_extract rfl rfl) (WL.v (run_extract rfl rfl) (WL.a (WL.z (W.sr ?_)))))
 refine WL.m (WL.m (WL.v (run_eqlStrD (a := wordB (p.imm && x)) (b := [89, 101, 115]) rfl rfl) (WL.n rfl (WL.f 3 underlying127 rfl sizeOf4 rfl rfl (WL.e (eff_store (v := .bool _) h sizeOf4 rfl rfl rfl rfl rfl) ?_)))))
 rintro _ w h
 try simp only [Nat.zero_add, Nat.add_zero, List.set_cons_zero, List.set_cons_succ] at h
 refine WL.nil (W.sr (WL.m (WL.m (WL.a (WL.a (WL.a ?_))))))
 refine WL.nil (W.ret (bodyQ.r3 (v1 := .string _) (v2 := .bool _) (v3 := .bool _) results189 rfl rfl rfl ?_))
 rw [(boolB_word (p.imm && x)).1] at h
 exact ⟨rfl, h⟩
theorem key5_ok {b0 : Nat} {p : Pm} {s : List UInt8} {c : List UInt8} {m : Int} (G : Gives L (GlP m)) (hl : s.length ≤ 1000) (hs : chooseB s [67, 82, 67, 51, 50, 67, 44, 78, 111, 110, 101] = some c) (h : On W0 (blk b0 p.cells 127 :: L) w) : Calls Tryz.prog 191 #[.pointer (some ⟨b0, 0, none⟩), .string ⟨s.toArray⟩] w (Ret fun v w' => v = .tuple #[.string ⟨c.toArray⟩, .bool true, .bool true] ∧ On W0 (blk b0 (Pm.cells { p with dig := decide (c = [67, 82, 67, 51, 50, 67]) }) 127 :: L) w') := by
 refine enter func191 rfl ntmps191 rfl ?_
 have h : On W0 (blk b0 [.string ⟨p.name.toArray⟩, .int .i64 (p.maxd : Int), .int .i64 (p.burst : Int), .bool p.imm, .bool p.dig] 127 :: _) w := h
 refine W.sr (WL.a (WL.a (WL.z (W.sr ?_))))
 refine WL.m (WL.e (eff_call call192 (choose_ok (s := s) (my := [67, 82, 67, 51, 50, 67, 44, 78, 111, 110, 101]) (c := c) (Gives.to G) (by omega) (by decide) hs h)) ?_)
 rintro _ w ⟨rfl, h⟩
 refine WL.m (WL.v (run_extract rfl rfl) (WL.v (run_extract rfl rfl) (WL.a (WL.z (W.seq (W.seq ?_))))))
 refine W.region (WL.m (WL.v (run_not rfl) (WL.nil (W.cs (W.sr ?_)))))
 refine WL.m (WL.m (WL.v (run_eqlStrD (a := c) (b := [67, 82, 67, 51, 50, 67]) rfl rfl) (WL.n rfl (WL.f 4 underlying127 rfl sizeOf4 rfl rfl (WL.e (eff_store (v := .bool _) h sizeOf4 rfl rfl rfl rfl rfl) ?_)))))
 rintro _ w h
 try simp only [Nat.zero_add, Nat.add_zero, List.set_cons_zero, List.set_cons_succ] at h
 refine WL.nil (W.sr (WL.m (WL.a (WL.a (WL.z ?_)))))
 refine W.ret (bodyQ.r3 (v1 := .string _) (v2 := .bool _) (v3 := .bool _) results191 rfl rfl rfl ?_)
 exact ⟨rfl, h⟩
def keysL : List KT := [([73, 110, 105, 116, 105, 97, 116, 111, 114, 78, 97, 109, 101], .func (.func 184) #[] #[], 0), ([77, 97, 120, 82, 101, 99, 118, 68, 97, 116, 97, 83, 101, 103, 109, 101, 110, 116, 76, 101, 110, 103, 116, 104], .func (.func 186) #[] #[], 1), ([77, 97, 120, 66, 117, 114, 115, 116, 76, 101, 110, 103, 116, 104], .func (.func 188) #[] #[], 2), ([73, 109, 109, 101, 100, 105, 97, 116, 101, 68, 97, 116, 97], .func (.func 189) #[] #[], 3), ([72, 101, 97, 100, 101, 114, 68, 105, 103, 101, 115, 116], .func (.func 191) #[] #[], 4), ([84, 97, 114, 103, 101, 116, 78, 97, 109, 101], .func (.func 193) #[] #[], 5)]
theorem lkeys_ok (h : On W0 L w) : Calls Tryz.prog 173 #[] w (Ret fun v w' => ∃ b, v = .map (some b) ∧ On W0 (MapT b keysL 6 :: L) w') := by
 refine enter func173 rfl ntmps173 rfl (W.sr (WL.z (W.sr (WL.e (eff_makeMapT h) ?_))))
 rintro _ w ⟨bm, rfl, h⟩
 refine WL.e (eff_insertT (p := [73, 110, 105, 116, 105, 97, 116, 111, 114, 78, 97, 109, 101]) (v := .func (.func 184) #[] #[]) underlying9 h underlying247 rfl rfl rfl) ?_
 rintro _ w h
 have h : On W0 (MapT bm [([73, 110, 105, 116, 105, 97, 116, 111, 114, 78, 97, 109, 101], .func (.func 184) #[] #[], 0)] 1 :: L) w := h
 refine WL.e (eff_insertT (p := [77, 97, 120, 82, 101, 99, 118, 68, 97, 116, 97, 83, 101, 103, 109, 101, 110, 116, 76, 101, 110, 103, 116, 104]) (v := .func (.func 186) #[] #[]) underlying9 h underlying247 rfl rfl rfl) ?_
 rintro _ w h
 have h : On W0 (MapT bm [([73, 110, 105, 116, 105, 97, 116, 111, 114, 78, 97, 109, 101], .func (.func 184) #[] #[], 0), ([77, 97, 120, 82, 101, 99, 118, 68, 97, 116, 97, 83, 101, 103, 109, 101, 110, 116, 76, 101, 110, 103, 116, 104], .func (.func 186) #[] #[], 1)] 2 :: L) w := h
 refine WL.e (eff_insertT (p := [77, 97, 120, 66, 117, 114, 115, 116, 76, 101, 110, 103, 116, 104]) (v := .func (.func 188) #[] #[]) underlying9 h underlying247 rfl rfl rfl) ?_
 rintro _ w h
 have h : On W0 (MapT bm [([73, 110, 105, 116, 105, 97, 116, 111, 114, 78, 97, 109, 101], .func (.func 184) #[] #[], 0), ([77, 97, 120, 82, 101, 99, 118, 68, 97, 116, 97, 83, 101, 103, 109, 101, 110, 116, 76, 101, 110, 103, 116, 104], .func (.func 186) #[] #[], 1), ([77, 97, 120, 66, 117, 114, 115, 116, 76, 101, 110, 103, 116, 104], .func (.func 188) #[] #[], 2)] 3 :: L) w := h
 refine WL.e (eff_insertT (p := [73, 109, 109, 101, 100, 105, 97, 116, 101, 68, 97, 116, 97]) (v := .func (.func 189) #[] #[]) underlying9 h underlying247 rfl rfl rfl) ?_
 rintro _ w h
 have h : On W0 (MapT bm [([73, 110, 105, 116, 105, 97, 116, 111, 114, 78, 97, 109, 101], .func (.func 184) #[] #[], 0), ([77, 97, 120, 82, 101, 99, 118, 68, 97, 116, 97, 83, 101, 103, 109, 101, 110, 116, 76, 101, 110, 103, 116, 104], .func (.func 186) #[] #[], 1), ([77, 97, 120, 66, 117, 114, 115, 116, 76, 101, 110, 103, 116, 104], .func (.func 188) #[] #[], 2), ([73, 109, 109, 101, 100, 105, 97, 116, 101, 68, 97, 116, 97], .func (.func 189) #[] #[], 3)] 4 :: L) w := h
 refine WL.e (eff_insertT (p := [72, 101, 97, 100, 101, 114, 68, 105, 103, 101, 115, 116]) (v := .func (.func 191) #[] #[]) underlying9 h underlying247 rfl rfl rfl) ?_
 rintro _ w h
 have h : On W0 (MapT bm [([73, 110, 105, 116, 105, 97, 116, 111, 114, 78, 97, 109, 101], .func (.func 184) #[] #[], 0), ([77, 97, 120, 82, 101, 99, 118, 68, 97, 116, 97, 83, 101, 103, 109, 101, 110, 116, 76, 101, 110, 103, 116, 104], .func (.func 186) #[] #[], 1), ([77, 97, 120, 66, 117, 114, 115, 116, 76, 101, 110, 103, 116, 104], .func (.func 188) #[] #[], 2), ([73, 109, 109, 101, 100, 105, 97, 116, 101, 68, 97, 116, 97], .func (.func 189) #[] #[], 3), ([72, 101, 97, 100, 101, 114, 68, 105, 103, 101, 115, 116], .func (.func 191) #[] #[], 4)] 5 :: L) w := h
 refine WL.e (eff_insertT (p := [84, 97, 114, 103, 101, 116, 78, 97, 109, 101]) (v := .func (.func 193) #[] #[]) underlying9 h underlying247 rfl rfl rfl) ?_
 rintro _ w h
 have h : On W0 (MapT bm [([73, 110, 105, 116, 105, 97, 116, 111, 114, 78, 97, 109, 101], .func (.func 184) #[] #[], 0), ([77, 97, 120, 82, 101, 99, 118, 68, 97, 116, 97, 83, 101, 103, 109, 101, 110, 116, 76, 101, 110, 103, 116, 104], .func (.func 186) #[] #[], 1), ([77, 97, 120, 66, 117, 114, 115, 116, 76, 101, 110, 103, 116, 104], .func (.func 188) #[] #[], 2), ([73, 109, 109, 101, 100, 105, 97, 116, 101, 68, 97, 116, 97], .func (.func 189) #[] #[], 3), ([72, 101, 97, 100, 101, 114, 68, 105, 103, 101, 115, 116], .func (.func 191) #[] #[], 4), ([84, 97, 114, 103, 101, 116, 78, 97, 109, 101], .func (.func 193) #[] #[], 5)] 6 :: L) w := h
 refine WL.m (WL.z (W.ret (bodyQ.r1 (v := .map _) results173 rfl ?_)))
 exact ⟨bm, rfl, h⟩
theorem keyM_ok {m : Int} {b0 : Nat} {p q : Pm} {x : Pr} {out : List Pr} (ok : okPm p) (hl : x.2.length ≤ 1000) (hk : keyB p x = some (q, out)) :
   ∃ (f : FuncId) (a : Str) (t : Bool), lookT keysL x.1 = some (.func (.func f) #[] #[]) ∧ (∀ args w, (callFunc f args).run Tryz.prog w = .ok (.enter f args) w) ∧ out = (if t then [(x.1, a)] else []) ∧ okPm q ∧
     ∀ (L : List HProp) (w : World), Gives L (GlP m) → On W0 (blk b0 p.cells 127 :: L) w → Calls Tryz.prog f #[.pointer (some ⟨b0, 0, none⟩), .string ⟨x.2.toArray⟩] w (Ret fun v w' => v = .tuple #[.string ⟨a.toArray⟩, .bool t, .bool true] ∧ On W0 (blk b0 q.cells 127 :: L) w') := by
 have hsz : ∀ {n k : Nat} {v : Str}, sizeB n v = some k → k ≤ n := by
   intro n k v e
   obtain ⟨x, _, _, _, e2⟩ := sizeB_some e
   omega
 unfold keyB at hk
 split at hk
 · rename_i e
   split at hk
   · rename_i hn
     cases hk
     exact ⟨_, [], false, by rw [e]; rfl, call184, rfl, ⟨hl, ok.maxd, ok.burst⟩, fun L w G h => key1_ok hl hn h⟩
   cases hk
 split at hk
 · rename_i e
   cases hn : sizeB p.maxd x.2 with
   | none => rw [hn] at hk; cases hk
   | some k =>
     rw [hn] at hk; cases hk
     exact ⟨_, [], false, by rw [e]; rfl, call186, rfl, ⟨ok.name, Nat.le_trans (hsz hn) ok.maxd, ok.burst⟩, fun L w G h => key2_ok hn h⟩
 split at hk
 · rename_i e
   cases hn : sizeB p.burst x.2 with
   | none => rw [hn] at hk; cases hk
   | some k =>
     rw [hn] at hk; cases hk
     exact ⟨_, _, true, by rw [e]; rfl, call188, rfl, ⟨ok.name, ok.maxd, Nat.le_trans (hsz hn) ok.burst⟩, fun L w G h => key3_ok G ok.burst hn h⟩
 split at hk
 · rename_i e
   cases hn : boolB x.2 with
   | none => rw [hn] at hk; cases hk
   | some k =>
     rw [hn] at hk; cases hk
     exact ⟨_, _, true, by rw [e]; rfl, call189, rfl, ⟨ok.name, ok.maxd, ok.burst⟩, fun L w G h => key4_ok hn h⟩
 split at hk
 · rename_i e
   cases hn : chooseB x.2 [67, 82, 67, 51, 50, 67, 44, 78, 111, 110, 101] with
   | none => rw [hn] at hk; cases hk
   | some k =>
     rw [hn] at hk; cases hk
     exact ⟨_, _, true, by rw [e]; rfl, call191, rfl, ⟨ok.name, ok.maxd, ok.burst⟩, fun L w G h => key5_ok G hl hn h⟩
 cases hk
theorem keyB_ok {p q : Pm} {x : Pr} {out : List Pr} (hk : keyB p x = some (q, out)) : out.length ≤ 1 := by
 unfold keyB at hk
 repeat' split at hk
 all_goals first
   | (cases hk; done)
   | (cases hk; simp; done)
   | (simp only [Option.map_eq_some_iff] at hk
      obtain ⟨a, _, e⟩ := hk
      cases e; simp)
theorem negotiate_ok {ac al : Option Addr} {cc cl : Nat} {acl : List Str} {l outF : List Pr} {q : Pm} {m : Int} (G : Gives L (GlP m)) (hl : l.length ≤ 1000) (hac0 : 0 < acl.length) (hac : acl.length ≤ 1000) (hlen : ∀ x ∈ l, x.1.length ≤ 1000 ∧ x.2.length ≤ 1000) (hn : negB acl l = some (q, outF)) (h : On W0 L w) (CA : Gives L (Cells 1 (.slice ac acl.length cc) acl.length (acl.map (fun t : List UInt8 => Value.string ⟨t.toArray⟩)))) (C : Gives L (Cells 2 (.slice al l.length cl) l.length (l.flatMap prCells))) : Calls Tryz.prog 150 #[.agg (Pm.cells ours).toArray, .slice ac acl.length cc, .slice al l.length cl] w (Ret fun v w' => ∃ a, okPm q ∧ v = .tuple #[.slice a outF.length outF.length, .agg q.cells.toArray, .int .i64 0] ∧ On W0 (Own 2 (.slice a outF.length outF.length) outF.length (outF.flatMap prCells) :: L) w') := by
 refine enter func150 rfl ntmps150 rfl ?_
 have hmx := maxLen_eq
 unfold negB at hn
 cases hnk : negK { ours with name := [], dig := false } [] l with
 | none => rw [hnk] at hn; cases hn
 | some z => ?_
 rw [hnk] at hn
 simp only [Option.bind_some] at hn
 have hnn : z.1.name ≠ [] ∧ acl.contains z.1.name = true ∧ z = (q, outF) := by
   split at hn
   · rename_i hc; cases hn; exact ⟨hc.1, hc.2, rfl⟩
   cases hn
 clear hn
 obtain ⟨hnn1, hnn2, hz⟩ := hnn
 subst hz
 dsimp only at hnn1 hnn2
 refine W.sr (WL.e (eff_box (v := .agg (Pm.cells ours).toArray) (l := Pm.cells ours) h rfl rfl) ?_)
 rintro _ w ⟨b3, rfl, h⟩
 refine WL.a (WL.e (eff_alloc h zeroValue127 rfl) ?_)
 rintro _ w ⟨b7, rfl, h⟩
 refine WL.z (W.scope (W.sr (WL.v (run_loadB (vs := Pm.cells ours) h isAgg127 sizeOf127 rfl rfl rfl) (WL.e (eff_alloc h zeroValue127 rfl) ?_))))
 rintro _ w ⟨b9, rfl, h⟩
 refine WL.e (eff_storeW (vs := Pm.cells ours) h sizeOf127 rfl rfl rfl rfl rfl) ?_
 rintro _ w h
 have h : On W0 (blk b9 [.string ⟨#[]⟩, .int .i64 4096, .int .i64 8192, .bool true, .bool true] 127 :: _) w := h
 refine WL.nil (W.sr (WL.f 0 underlying127 rfl sizeOf9 rfl rfl (WL.e (eff_store (v := .string _) h sizeOf9 rfl rfl rfl rfl rfl) ?_)))
 rintro _ w h
 try simp only [Nat.zero_add, Nat.add_zero, List.set_cons_zero, List.set_cons_succ] at h
 refine WL.f 4 underlying127 rfl sizeOf4 rfl rfl (WL.e (eff_store (v := .bool _) h sizeOf4 rfl rfl rfl rfl rfl) ?_)
 rintro _ w h
 try simp only [Nat.zero_add, Nat.add_zero, List.set_cons_zero, List.set_cons_succ] at h
 refine WL.nil (W.sr (WL.e (eff_call call173 (lkeys_ok h)) ?_))
 rintro _ w ⟨bm, rfl, h⟩
 refine WL.z (W.seq (W.label (W.seq (W.sr (WL.m ?_)))))
 refine WL.v (run_lenSlice underlying207 rfl) (WL.m (WL.nil (W.block ?_)))
 refine W.loop (fun (k : Nat) env w => (k ≤ l.length) ∧ ∃ (j : Env) (p : Pm) (out : List Pr) (ao : Option Addr) (co : Nat), okPm p ∧ out.length ≤ k ∧ negK p out (l.drop k) = some (q, outF) ∧ env = mkE j [(1, .slice ac acl.length cc), (6, .slice ao out.length co), (7, .pointer (some ⟨b7, 0, none⟩)), (8, .int .i64 0), (9, .pointer (some ⟨b9, 0, none⟩)), (10, .map (some bm)), (22, .slice al l.length cl), (23, .int .i64 (l.length : Int)), (24, .int .i64 (k : Int))] ∧ On W0 (blk b9 p.cells 127 :: Own 2 (.slice ao out.length co) out.length (out.flatMap prCells) :: blk b7 (Pm.cells zPm) 127 :: MapT bm keysL 6 :: L) w) (fun k => l.length - k) (0) ?_ ?_
 · have h := h.ownEmpty 2 none
   have h : On W0 (Own 2 (.slice none ([] : List Pr).length 0) ([] : List Pr).length (([] : List Pr).flatMap prCells) :: _) w := h
   have h : On W0 (Own 2 (.slice none ([] : List Pr).length 0) ([] : List Pr).length (([] : List Pr).flatMap prCells) :: MapT bm keysL 6 :: blk b9 (Pm.cells { ours with name := [], dig := false }) 127 :: blk b7 (Pm.cells zPm) 127 :: _) w := h
   exact ⟨Nat.zero_le _, _, _, [], none, 0, ⟨by decide, by decide, by decide⟩, Nat.zero_le _, hnk, mkE_of ⟨rfl, rfl, rfl, rfl, rfl, rfl, rfl, rfl, rfl, trivial⟩, h.to⟩
 clear h
 rintro k env w ⟨hk, j, p, out, ao, co, okp, hol, hng, rfl, h⟩
 refine W.sr (WL.v (run_lss rfl rfl) (WL.nil (W.seq ?_)))
 refine W.condIf rfl (fun c10 => ?_) (fun c10 => ?_)
 ·
  refine W.skip (W.seq ?_)
  have ob_ : ∃ x, l[k]? = some x := ⟨l[k]'(by omega), List.getElem?_eq_getElem _⟩
  obtain ⟨x, hx⟩ := ob_
  have hxl := hlen x (List.mem_of_getElem? hx)
  have ad_ := (h.readsTo C).addr (by omega)
  obtain ⟨bq, oq, hal_⟩ := ad_
  subst hal_
  rw [drop_consT hx, negK] at hng
  cases hkx : keyB p x with
  | none => rw [hkx] at hng; cases hng
  | some z => ?_
  rw [hkx] at hng
  obtain ⟨p2, o2⟩ := z
  dsimp only [Option.bind_some] at hng
  have hkm := keyM_ok (m := m) (b0 := b9) (W0 := W0) okp hxl.2 hkx
  obtain ⟨f, a, t, hlk, hcf, hout, okp2, hcall⟩ := hkm
  refine W.block (W.sr (WL.v (run_indexAddr underlying207 sizeOf216 rfl rfl (by omega) (by omega)) (WL.v (run_loadN isAgg216 sizeOf216 rfl rfl ((h.readsTo C).elem (i := k) (vs := prCells x) (by omega) (drop_flatMap prCells 2 prCells_length l _ _ hx))) (WL.e (eff_alloc h zeroValue216 rfl) ?_))))
  rintro _ w ⟨b12, rfl, h⟩
  refine WL.e (eff_storeW (vs := prCells x) h sizeOf216 rfl rfl rfl rfl rfl) ?_
  rintro _ w h
  refine WL.nil (W.sr (WL.m (WL.c 0 underlying216 rfl sizeOf9 rfl isAgg9 h rfl (WL.v (run_lookupTOk (p := x.1) (v := .func (.func f) #[] #[]) (o := true) underlying9 (On.mapTC (h.fetch (MapT bm keysL 6))).2 underlying247 zeroValue250 rfl rfl (by rw [hlk]; rfl) (by rw [hlk]; rfl)) (WL.m ?_)))))
  refine WL.v (run_extract rfl rfl) (WL.v (run_extract rfl rfl) (WL.a (WL.z (W.seq (W.sr ?_)))))
  refine WL.m (WL.v (run_not rfl) (WL.nil (W.cs (W.sr (WL.m ?_)))))
  refine WL.c 1 underlying216 rfl sizeOf9 rfl isAgg9 h rfl (WL.e (eff_callV (xs := [_, _]) rfl hcf (hcall _ _ (Gives.to G) (h.fetch (blk b9 p.cells 127)))) ?_)
  rintro _ w ⟨rfl, h⟩
  refine WL.m (WL.v (run_extract rfl rfl) (WL.v (run_extract rfl rfl) (WL.v (run_extract rfl rfl) (WL.a (WL.a (WL.z ?_))))))
  refine W.seq (W.sr (WL.m (WL.v (run_not rfl) (WL.nil (W.cs ?_)))))
  refine W.sr (WL.m (WL.nil ?_))
  refine W.condB rfl (fun c28 => ?_) (fun c28 => ?_)
  ·
   refine W.region (WL.m (WL.c 0 underlying216 rfl sizeOf9 rfl isAgg9 h rfl (WL.m (WL.v (run_buildS (pl := qp1) (out := [.string _, .string _]) underlying216 zeroValue216 (fun w => by kernel_rfl) rfl (⟨⟨_, _, rfl, rfl, by decide⟩, ⟨⟨_, _, rfl, rfl, by decide⟩, trivial⟩⟩) rfl) (WL.e (eff_mkSlice (zl := [.string (ByteArray.mk #[]), .string (ByteArray.mk #[])]) (out := [.string _, .string _]) h underlying207 sizeOf216 zeroValue216 (by decide) (by kernel_rfl) rfl rfl (by simp) (⟨⟨_, _, rfl, rfl, by decide⟩, trivial⟩) rfl rfl (by simp [maxLen])) ?_)))))
   rintro _ w ⟨b59, rfl, h⟩
   refine WL.e (eff_app (c2 := 1) (bytes := 32) (h.fetch (Own 2 (.slice ao out.length co) out.length (out.flatMap prCells))) rfl rfl (h.cellsO (v := .slice (some ⟨b59, 0, none⟩) 1 1)) underlying207 rfl rfl rfl rfl rfl (by omega) (by omega) (by simp [Value.oneCell'])) ?_
   rintro v60 w ⟨a60, c60, hv60, h⟩
   have ev : out.flatMap prCells ++ prCells (x.1, a) = (out ++ [(x.1, a)]).flatMap prCells := by rw [List.flatMap_append]; simp
   have el : out.length + 1 = (out ++ [(x.1, a)]).length := by simp
   rw [show [Value.string ⟨x.1.toArray⟩, Value.string ⟨a.toArray⟩] = prCells (x.1, a) from rfl, ev, el] at h
   rw [el] at hv60
   refine WL.z (W.region (WL.v (run_add rfl rfl (by omega) (by omega)) (WL.m (WL.nil ?_))))
   rw [c28] at hout
   rw [hout] at hng
   exact ⟨k + 1, ⟨by omega, _, p2, out ++ [(x.1, a)], a60, c60, okp2, by simp only [List.length_append, List.length_cons, List.length_nil]; omega, hng, mkE_of ⟨rfl, hv60, rfl, rfl, rfl, rfl, rfl, rfl, rfl, trivial⟩, h.to⟩, by show l.length - (k + 1) < l.length - k; omega⟩
  refine W.skip (W.region (WL.v (run_add rfl rfl (by omega) (by omega)) (WL.m (WL.nil ?_))))
  rw [c28] at hout
  rw [hout] at hng
  exact ⟨k + 1, ⟨by omega, _, p2, out, ao, co, okp2, by omega, by rw [show (if false = true then [(x.1, a)] else []) = ([] : List Pr) from rfl, List.append_nil] at hng; exact hng, mkE_of ⟨rfl, rfl, rfl, rfl, rfl, rfl, rfl, rfl, rfl, trivial⟩, h.to⟩, by show l.length - (k + 1) < l.length - k; omega⟩
 refine W.exit (W.seq ?_)
 have ek : k = l.length := by omega
 rw [ek, List.drop_length, negK] at hng
 cases hng
 refine W.block (W.sr (WL.m (WL.v (run_neqF rfl rfl (by decide)) (WL.z (W.cf ?_)))))
 refine W.sr (WL.c 0 underlying127 rfl sizeOf9 rfl isAgg9 h rfl (WL.v (run_eqlStrD (a := q.name) (b := []) rfl rfl) (WL.z ?_)))
 refine W.condIf rfl (fun c37 => ?_) (fun c37 => ?_)
 ·
  exact (hnn1 c37).elim
 refine W.sr (WL.m (WL.c 0 underlying127 rfl sizeOf9 rfl isAgg9 h rfl (WL.e (eff_call call174 (contains_ok (rows := acl) (x := q.name) hac0 (by omega) h (Gives.to CA))) ?_)))
 rintro _ w ⟨hv, h⟩
 rw [hnn2] at hv
 subst hv
 refine WL.v (run_not rfl) (WL.z (W.cs (W.seq (W.sr ?_))))
 refine WL.m (WL.v (run_neqF rfl rfl (by decide)) (WL.nil (W.cs (W.seq ?_))))
 refine W.draw Tryz.follows h (fun w h => ?_)
 refine WT.m 0 rfl (WT.loadN (vs := [.string _, .int .i64 _, .int .i64 _, .bool _, .bool _]) 2 rfl (by kernel_rfl) isAgg127 sizeOf127 rfl rfl (h.rowV (n := 5) rfl) rfl rfl (WT.e 1 [true] rfl (eff_call call172 (clip_prs (h.own (.slice ao outF.length co)))) ?_))
 rintro _ w ⟨rfl, h⟩
 refine ⟨⟨(h.rowV (n := 5) rfl), trivial⟩, ?_⟩
 refine WT.a 3 rfl (WT.e 4 [false] rfl (eff_storeW (vs := [.string _, .int .i64 _, .int .i64 _, .bool _, .bool _]) h sizeOf127 rfl rfl rfl rfl rfl) ?_)
 rintro _ w h
 refine ⟨trivial, ?_⟩
 refine WT.a 5 rfl (WT.dn (W.ret (bodyQ.tctB (vs := q.cells) (v2 := .slice ao outF.length outF.length) (v3 := .int .i64 0) h results150 isAgg127 sizeOf127 rfl rfl rfl rfl rfl ?_)))
 exact ⟨ao, okp, rfl, h.to⟩
theorem lask_ok {p : Pm} {m : Int} (G : Gives L (GlP m)) (ok : okPm p) (h : On W0 L w) : Calls Tryz.prog 128 #[.agg p.cells.toArray] w (Ret fun v w' => ∃ b, v = .slice (some ⟨b, 0, none⟩) (askB p).length (askB p).length ∧ On W0 (Own 2 (.slice (some ⟨b, 0, none⟩) (askB p).length (askB p).length) (askB p).length ((askB p).flatMap prCells) :: L) w') := by
 refine enter func128 rfl ntmps128 rfl (W.sr (WL.e (eff_box (v := .agg p.cells.toArray) (l := p.cells) h rfl rfl) ?_))
 rintro _ w ⟨b1, rfl, h⟩
 have h : On W0 (blk b1 [.string ⟨p.name.toArray⟩, .int .i64 (p.maxd : Int), .int .i64 (p.burst : Int), .bool p.imm, .bool p.dig] 127 :: _) w := h
 refine WL.z (W.sr (WL.z (W.seq (W.seq ?_))))
 refine W.region (WL.c 4 underlying127 rfl sizeOf4 rfl isAgg4 h rfl (WL.nil ?_))
 refine W.condB rfl (fun c3 => ?_) (fun c3 => ?_)
 ·
  refine W.region (WL.z (W.seq ?_))
  refine W.draw Tryz.follows h (fun w h => ?_)
  refine WT.f 0 0 rfl underlying127 rfl sizeOf9 rfl rfl (WT.l 1 rfl isAgg9 rfl (h.cellB rfl) (WT.p 2 rfl (fun w' => (run_buildS (pl := qp1) (out := [.string _, .string _]) underlying216 zeroValue216 (fun w => by kernel_rfl) rfl (⟨⟨_, _, rfl, rfl, by decide⟩, ⟨⟨_, _, rfl, rfl, by decide⟩, trivial⟩⟩) rfl)) (WT.f 3 1 rfl underlying127 rfl sizeOf3 rfl rfl (WT.l 4 rfl isAgg3 rfl (h.cellB rfl) (WT.f 7 2 rfl underlying127 rfl sizeOf3 rfl rfl (WT.l 8 rfl isAgg3 rfl (h.cellB rfl) (WT.f 11 3 rfl underlying127 rfl sizeOf4 rfl rfl ?_)))))))
  refine WT.l 12 rfl isAgg4 rfl (h.cellB rfl) (WT.m 15 rfl (WT.p 16 rfl (fun w' => (run_buildS (pl := qp1) (out := [.string _, .string _]) underlying216 zeroValue216 (fun w => by kernel_rfl) rfl (⟨⟨_, _, rfl, rfl, by decide⟩, ⟨⟨_, _, rfl, rfl, by decide⟩, trivial⟩⟩) rfl)) (WT.e 5 [true, true, false, true] rfl (eff_call call142 (itoa_ok (n := p.maxd) (Gives.to G) ok.maxd h)) ?_)))
  rintro _ w ⟨rfl, h⟩
  rw [itoaB_eq ok.maxd]
  refine ⟨⟨h.cellB rfl, h.cellB rfl, h.cellB rfl, trivial⟩, ?_⟩
  refine WT.p 6 rfl (fun w' => (run_buildS (pl := qp1) (out := [.string _, .string _]) underlying216 zeroValue216 (fun w => by kernel_rfl) rfl (⟨⟨_, _, rfl, rfl, by decide⟩, ⟨⟨_, _, rfl, rfl, by decide⟩, trivial⟩⟩) rfl)) (WT.e 9 [true, false, true] rfl (eff_call call142 (itoa_ok (n := p.burst) (Gives.to G) ok.burst h)) ?_)
  rintro _ w ⟨rfl, h⟩
  rw [itoaB_eq ok.burst]
  refine ⟨⟨h.cellB rfl, h.cellB rfl, trivial⟩, ?_⟩
  refine WT.p 10 rfl (fun w' => (run_buildS (pl := qp1) (out := [.string _, .string _]) underlying216 zeroValue216 (fun w => by kernel_rfl) rfl (⟨⟨_, _, rfl, rfl, by decide⟩, ⟨⟨_, _, rfl, rfl, by decide⟩, trivial⟩⟩) rfl)) (WT.e 13 [false, true] rfl (eff_call call143 (word_ok (b := p.imm) h)) ?_)
  rintro _ w ⟨rfl, h⟩
  refine ⟨⟨h.cellB rfl, trivial⟩, ?_⟩
  refine WT.p 14 rfl (fun w' => (run_buildS (pl := qp1) (out := [.string _, .string _]) underlying216 zeroValue216 (fun w => by kernel_rfl) rfl (⟨⟨_, _, rfl, rfl, by decide⟩, ⟨⟨_, _, rfl, rfl, by decide⟩, trivial⟩⟩) rfl)) ?_
  refine WT.e 17 [false] rfl (eff_mkSlice (zl := [.string (ByteArray.mk #[]), .string (ByteArray.mk #[]), .string (ByteArray.mk #[]), .string (ByteArray.mk #[]), .string (ByteArray.mk #[]), .string (ByteArray.mk #[]), .string (ByteArray.mk #[]), .string (ByteArray.mk #[]), .string (ByteArray.mk #[]), .string (ByteArray.mk #[])]) (out := [.string _, .string _, .string _, .string _, .string _, .string _, .string _, .string _, .string _, .string _]) h underlying207 sizeOf216 zeroValue216 (by decide) (by kernel_rfl) rfl rfl (by simp) (⟨⟨_, _, rfl, rfl, by decide⟩, ⟨⟨_, _, rfl, rfl, by decide⟩, ⟨⟨_, _, rfl, rfl, by decide⟩, ⟨⟨_, _, rfl, rfl, by decide⟩, ⟨⟨_, _, rfl, rfl, by decide⟩, trivial⟩⟩⟩⟩⟩) rfl rfl (by simp [maxLen])) ?_
  rintro _ w ⟨b23, rfl, h⟩
  refine ⟨trivial, ?_⟩
  refine WT.a 18 rfl (WT.dn (W.ret (bodyQ.r1 (v := .slice _ _ _) results128 rfl ?_)))
  have ea : askB p = ([([73, 110, 105, 116, 105, 97, 116, 111, 114, 78, 97, 109, 101], p.name), ([77, 97, 120, 82, 101, 99, 118, 68, 97, 116, 97, 83, 101, 103, 109, 101, 110, 116, 76, 101, 110, 103, 116, 104], itoaB p.maxd), ([77, 97, 120, 66, 117, 114, 115, 116, 76, 101, 110, 103, 116, 104], itoaB p.burst), ([73, 109, 109, 101, 100, 105, 97, 116, 101, 68, 97, 116, 97], wordB p.imm), ([72, 101, 97, 100, 101, 114, 68, 105, 103, 101, 115, 116], [67, 82, 67, 51, 50, 67, 44, 78, 111, 110, 101])] : List Pr) := by unfold askB; rw [c3]; rfl
  rw [ea]
  have h : On W0 (Own 2 (.slice (some ⟨b23, 0, none⟩) ([([73, 110, 105, 116, 105, 97, 116, 111, 114, 78, 97, 109, 101], p.name), ([77, 97, 120, 82, 101, 99, 118, 68, 97, 116, 97, 83, 101, 103, 109, 101, 110, 116, 76, 101, 110, 103, 116, 104], itoaB p.maxd), ([77, 97, 120, 66, 117, 114, 115, 116, 76, 101, 110, 103, 116, 104], itoaB p.burst), ([73, 109, 109, 101, 100, 105, 97, 116, 101, 68, 97, 116, 97], wordB p.imm), ([72, 101, 97, 100, 101, 114, 68, 105, 103, 101, 115, 116], [67, 82, 67, 51, 50, 67, 44, 78, 111, 110, 101])] : List Pr).length ([([73, 110, 105, 116, 105, 97, 116, 111, 114, 78, 97, 109, 101], p.name), ([77, 97, 120, 82, 101, 99, 118, 68, 97, 116, 97, 83, 101, 103, 109, 101, 110, 116, 76, 101, 110, 103, 116, 104], itoaB p.maxd), ([77, 97, 120, 66, 117, 114, 115, 116, 76, 101, 110, 103, 116, 104], itoaB p.burst), ([73, 109, 109, 101, 100, 105, 97, 116, 101, 68, 97, 116, 97], wordB p.imm), ([72, 101, 97, 100, 101, 114, 68, 105, 103, 101, 115, 116], [67, 82, 67, 51, 50, 67, 44, 78, 111, 110, 101])] : List Pr).length) ([([73, 110, 105, 116, 105, 97, 116, 111, 114, 78, 97, 109, 101], p.name), ([77, 97, 120, 82, 101, 99, 118, 68, 97, 116, 97, 83, 101, 103, 109, 101, 110, 116, 76, 101, 110, 103, 116, 104], itoaB p.maxd), ([77, 97, 120, 66, 117, 114, 115, 116, 76, 101, 110, 103, 116, 104], itoaB p.burst), ([73, 109, 109, 101, 100, 105, 97, 116, 101, 68, 97, 116, 97], wordB p.imm), ([72, 101, 97, 100, 101, 114, 68, 105, 103, 101, 115, 116], [67, 82, 67, 51, 50, 67, 44, 78, 111, 110, 101])] : List Pr).length (([([73, 110, 105, 116, 105, 97, 116, 111, 114, 78, 97, 109, 101], p.name), ([77, 97, 120, 82, 101, 99, 118, 68, 97, 116, 97, 83, 101, 103, 109, 101, 110, 116, 76, 101, 110, 103, 116, 104], itoaB p.maxd), ([77, 97, 120, 66, 117, 114, 115, 116, 76, 101, 110, 103, 116, 104], itoaB p.burst), ([73, 109, 109, 101, 100, 105, 97, 116, 101, 68, 97, 116, 97], wordB p.imm), ([72, 101, 97, 100, 101, 114, 68, 105, 103, 101, 115, 116], [67, 82, 67, 51, 50, 67, 44, 78, 111, 110, 101])] : List Pr).flatMap prCells) :: _) w := h
  exact ⟨b23, rfl, h.to⟩
 refine W.skip (W.seq ?_)
 refine W.draw Tryz.follows h (fun w h => ?_)
 refine WT.f 0 0 rfl underlying127 rfl sizeOf9 rfl rfl (WT.l 1 rfl isAgg9 rfl (h.cellB rfl) (WT.p 2 rfl (fun w' => (run_buildS (pl := qp1) (out := [.string _, .string _]) underlying216 zeroValue216 (fun w => by kernel_rfl) rfl (⟨⟨_, _, rfl, rfl, by decide⟩, ⟨⟨_, _, rfl, rfl, by decide⟩, trivial⟩⟩) rfl)) (WT.f 3 1 rfl underlying127 rfl sizeOf3 rfl rfl (WT.l 4 rfl isAgg3 rfl (h.cellB rfl) (WT.f 7 2 rfl underlying127 rfl sizeOf3 rfl rfl (WT.l 8 rfl isAgg3 rfl (h.cellB rfl) (WT.f 11 3 rfl underlying127 rfl sizeOf4 rfl rfl ?_)))))))
 refine WT.l 12 rfl isAgg4 rfl (h.cellB rfl) (WT.m 15 rfl (WT.p 16 rfl (fun w' => (run_buildS (pl := qp1) (out := [.string _, .string _]) underlying216 zeroValue216 (fun w => by kernel_rfl) rfl (⟨⟨_, _, rfl, rfl, by decide⟩, ⟨⟨_, _, rfl, rfl, by decide⟩, trivial⟩⟩) rfl)) (WT.e 5 [true, true, false, true] rfl (eff_call call142 (itoa_ok (n := p.maxd) (Gives.to G) ok.maxd h)) ?_)))
 rintro _ w ⟨rfl, h⟩
 rw [itoaB_eq ok.maxd]
 refine ⟨⟨h.cellB rfl, h.cellB rfl, h.cellB rfl, trivial⟩, ?_⟩
 refine WT.p 6 rfl (fun w' => (run_buildS (pl := qp1) (out := [.string _, .string _]) underlying216 zeroValue216 (fun w => by kernel_rfl) rfl (⟨⟨_, _, rfl, rfl, by decide⟩, ⟨⟨_, _, rfl, rfl, by decide⟩, trivial⟩⟩) rfl)) (WT.e 9 [true, false, true] rfl (eff_call call142 (itoa_ok (n := p.burst) (Gives.to G) ok.burst h)) ?_)
 rintro _ w ⟨rfl, h⟩
 rw [itoaB_eq ok.burst]
 refine ⟨⟨h.cellB rfl, h.cellB rfl, trivial⟩, ?_⟩
 refine WT.p 10 rfl (fun w' => (run_buildS (pl := qp1) (out := [.string _, .string _]) underlying216 zeroValue216 (fun w => by kernel_rfl) rfl (⟨⟨_, _, rfl, rfl, by decide⟩, ⟨⟨_, _, rfl, rfl, by decide⟩, trivial⟩⟩) rfl)) (WT.e 13 [false, true] rfl (eff_call call143 (word_ok (b := p.imm) h)) ?_)
 rintro _ w ⟨rfl, h⟩
 refine ⟨⟨h.cellB rfl, trivial⟩, ?_⟩
 refine WT.p 14 rfl (fun w' => (run_buildS (pl := qp1) (out := [.string _, .string _]) underlying216 zeroValue216 (fun w => by kernel_rfl) rfl (⟨⟨_, _, rfl, rfl, by decide⟩, ⟨⟨_, _, rfl, rfl, by decide⟩, trivial⟩⟩) rfl)) ?_
 refine WT.e 17 [false] rfl (eff_mkSlice (zl := [.string (ByteArray.mk #[]), .string (ByteArray.mk #[]), .string (ByteArray.mk #[]), .string (ByteArray.mk #[]), .string (ByteArray.mk #[]), .string (ByteArray.mk #[]), .string (ByteArray.mk #[]), .string (ByteArray.mk #[]), .string (ByteArray.mk #[]), .string (ByteArray.mk #[])]) (out := [.string _, .string _, .string _, .string _, .string _, .string _, .string _, .string _, .string _, .string _]) h underlying207 sizeOf216 zeroValue216 (by decide) (by kernel_rfl) rfl rfl (by simp) (⟨⟨_, _, rfl, rfl, by decide⟩, ⟨⟨_, _, rfl, rfl, by decide⟩, ⟨⟨_, _, rfl, rfl, by decide⟩, ⟨⟨_, _, rfl, rfl, by decide⟩, ⟨⟨_, _, rfl, rfl, by decide⟩, trivial⟩⟩⟩⟩⟩) rfl rfl (by simp [maxLen])) ?_
 rintro _ w ⟨b23, rfl, h⟩
 refine ⟨trivial, ?_⟩
 refine WT.a 18 rfl (WT.dn (W.ret (bodyQ.r1 (v := .slice _ _ _) results128 rfl ?_)))
 have ea : askB p = ([([73, 110, 105, 116, 105, 97, 116, 111, 114, 78, 97, 109, 101], p.name), ([77, 97, 120, 82, 101, 99, 118, 68, 97, 116, 97, 83, 101, 103, 109, 101, 110, 116, 76, 101, 110, 103, 116, 104], itoaB p.maxd), ([77, 97, 120, 66, 117, 114, 115, 116, 76, 101, 110, 103, 116, 104], itoaB p.burst), ([73, 109, 109, 101, 100, 105, 97, 116, 101, 68, 97, 116, 97], wordB p.imm), ([72, 101, 97, 100, 101, 114, 68, 105, 103, 101, 115, 116], [78, 111, 110, 101])] : List Pr) := by unfold askB; rw [c3]; rfl
 rw [ea]
 have h : On W0 (Own 2 (.slice (some ⟨b23, 0, none⟩) ([([73, 110, 105, 116, 105, 97, 116, 111, 114, 78, 97, 109, 101], p.name), ([77, 97, 120, 82, 101, 99, 118, 68, 97, 116, 97, 83, 101, 103, 109, 101, 110, 116, 76, 101, 110, 103, 116, 104], itoaB p.maxd), ([77, 97, 120, 66, 117, 114, 115, 116, 76, 101, 110, 103, 116, 104], itoaB p.burst), ([73, 109, 109, 101, 100, 105, 97, 116, 101, 68, 97, 116, 97], wordB p.imm), ([72, 101, 97, 100, 101, 114, 68, 105, 103, 101, 115, 116], [78, 111, 110, 101])] : List Pr).length ([([73, 110, 105, 116, 105, 97, 116, 111, 114, 78, 97, 109, 101], p.name), ([77, 97, 120, 82, 101, 99, 118, 68, 97, 116, 97, 83, 101, 103, 109, 101, 110, 116, 76, 101, 110, 103, 116, 104], itoaB p.maxd), ([77, 97, 120, 66, 117, 114, 115, 116, 76, 101, 110, 103, 116, 104], itoaB p.burst), ([73, 109, 109, 101, 100, 105, 97, 116, 101, 68, 97, 116, 97], wordB p.imm), ([72, 101, 97, 100, 101, 114, 68, 105, 103, 101, 115, 116], [78, 111, 110, 101])] : List Pr).length) ([([73, 110, 105, 116, 105, 97, 116, 111, 114, 78, 97, 109, 101], p.name), ([77, 97, 120, 82, 101, 99, 118, 68, 97, 116, 97, 83, 101, 103, 109, 101, 110, 116, 76, 101, 110, 103, 116, 104], itoaB p.maxd), ([77, 97, 120, 66, 117, 114, 115, 116, 76, 101, 110, 103, 116, 104], itoaB p.burst), ([73, 109, 109, 101, 100, 105, 97, 116, 101, 68, 97, 116, 97], wordB p.imm), ([72, 101, 97, 100, 101, 114, 68, 105, 103, 101, 115, 116], [78, 111, 110, 101])] : List Pr).length (([([73, 110, 105, 116, 105, 97, 116, 111, 114, 78, 97, 109, 101], p.name), ([77, 97, 120, 82, 101, 99, 118, 68, 97, 116, 97, 83, 101, 103, 109, 101, 110, 116, 76, 101, 110, 103, 116, 104], itoaB p.maxd), ([77, 97, 120, 66, 117, 114, 115, 116, 76, 101, 110, 103, 116, 104], itoaB p.burst), ([73, 109, 109, 101, 100, 105, 97, 116, 101, 68, 97, 116, 97], wordB p.imm), ([72, 101, 97, 100, 101, 114, 68, 105, 103, 101, 115, 116], [78, 111, 110, 101])] : List Pr).flatMap prCells) :: _) w := h
 exact ⟨b23, rfl, h.to⟩
theorem ltake_ok {al : Option Addr} {cl : Nat} {l : List Pr} {us q : Pm} (hl : l.length ≤ 1000) (hn : takeB us l = some q) (h : On W0 L w) (C : Gives L (Cells 2 (.slice al l.length cl) l.length (l.flatMap prCells))) : Calls Tryz.prog 175 #[.agg us.cells.toArray, .slice al l.length cl] w (Ret fun v w' => v = .tuple #[.agg q.cells.toArray, .int .i64 0] ∧ On W0 L w') := by
 refine enter func175 rfl ntmps175 rfl ?_
 have hmx := maxLen_eq
 unfold takeB at hn
 refine W.sr (WL.e (eff_box (v := .agg us.cells.toArray) (l := us.cells) h rfl rfl) ?_)
 rintro _ w ⟨b2, rfl, h⟩
 refine WL.e (eff_alloc h zeroValue127 rfl) ?_
 rintro _ w ⟨b4, rfl, h⟩
 refine WL.z (W.sr (WL.v (run_loadB (vs := us.cells) h isAgg127 sizeOf127 rfl rfl rfl) (WL.e (eff_alloc h zeroValue127 rfl) ?_)))
 rintro _ w ⟨b6, rfl, h⟩
 refine WL.e (eff_storeW (vs := us.cells) h sizeOf127 rfl rfl rfl rfl rfl) ?_
 rintro _ w h
 have h : On W0 (blk b6 [.string ⟨us.name.toArray⟩, .int .i64 (us.maxd : Int), .int .i64 (us.burst : Int), .bool us.imm, .bool us.dig] 127 :: _) w := h
 refine WL.nil (W.sr (WL.f 4 underlying127 rfl sizeOf4 rfl rfl (WL.e (eff_store (v := .bool _) h sizeOf4 rfl rfl rfl rfl rfl) ?_)))
 rintro _ w h
 try simp only [Nat.zero_add, Nat.add_zero, List.set_cons_zero, List.set_cons_succ] at h
 refine WL.nil (W.seq (W.sr (WL.m (WL.v (run_lenSlice underlying207 rfl) (WL.m (WL.nil ?_))))))
 refine W.block ?_
 refine W.loop (fun (k : Nat) env w => (k ≤ l.length) ∧ ∃ (j : Env) (p : Pm), takeK us p (l.drop k) = some q ∧ env = mkE j [(2, .pointer (some ⟨b2, 0, none⟩)), (4, .pointer (some ⟨b4, 0, none⟩)), (5, .int .i64 0), (6, .pointer (some ⟨b6, 0, none⟩)), (14, .slice al l.length cl), (15, .int .i64 (l.length : Int)), (16, .int .i64 (k : Int))] ∧ On W0 (blk b6 [.string ⟨p.name.toArray⟩, .int .i64 (p.maxd : Int), .int .i64 (p.burst : Int), .bool p.imm, .bool p.dig] 127 :: blk b2 us.cells 127 :: blk b4 (Pm.cells zPm) 127 :: L) w) (fun k => l.length - k) (0) ?_ ?_
 · have h : On W0 (blk b6 [.string ⟨{ us with dig := false }.name.toArray⟩, .int .i64 ({ us with dig := false }.maxd : Int), .int .i64 ({ us with dig := false }.burst : Int), .bool { us with dig := false }.imm, .bool { us with dig := false }.dig] 127 :: blk b4 (Pm.cells zPm) 127 :: blk b2 us.cells 127 :: _) w := h
   exact ⟨Nat.zero_le _, _, _, hn, mkE_of ⟨rfl, rfl, rfl, rfl, rfl, rfl, rfl, trivial⟩, h.to⟩
 clear h
 rintro k env w ⟨hk, j, p, htk, rfl, h⟩
 refine W.sr (WL.v (run_lss rfl rfl) (WL.nil (W.seq ?_)))
 refine W.condIf rfl (fun c7 => ?_) (fun c7 => ?_)
 ·
  refine W.skip (W.seq ?_)
  have ob_ : ∃ x, l[k]? = some x := ⟨l[k]'(by omega), List.getElem?_eq_getElem _⟩
  obtain ⟨x, hx⟩ := ob_
  have ad_ := (h.readsTo C).addr (by omega)
  obtain ⟨bq, oq, hal_⟩ := ad_
  subst hal_
  rw [drop_consT hx, takeK] at htk
  refine W.block (W.sr (WL.v (run_indexAddr underlying207 sizeOf216 rfl rfl (by omega) (by omega)) (WL.v (run_loadN isAgg216 sizeOf216 rfl rfl ((h.readsTo C).elem (i := k) (vs := prCells x) (by omega) (drop_flatMap prCells 2 prCells_length l _ _ hx))) (WL.e (eff_alloc h zeroValue216 rfl) ?_))))
  rintro _ w ⟨b8, rfl, h⟩
  refine WL.e (eff_storeW (vs := prCells x) h sizeOf216 rfl rfl rfl rfl rfl) ?_
  rintro _ w h
  refine WL.nil (W.sr (WL.z (W.seq (W.sr ?_))))
  refine WL.c 0 underlying216 rfl sizeOf9 rfl isAgg9 h rfl (WL.nil (W.block (W.sr (WL.v (run_eqlStrD (a := x.1) (b := [77, 97, 120, 66, 117, 114, 115, 116, 76, 101, 110, 103, 116, 104]) rfl rfl) (WL.a ?_)))))
  refine WL.nil ?_
  refine W.condIf rfl (fun c16 => ?_) (fun c16 => ?_)
  ·
   rw [if_pos c16] at htk
   cases hnb : numB x.2 with
   | none => rw [hnb] at htk; cases htk
   | some n => ?_
   rw [hnb] at htk
   dsimp only [Option.map_some, Option.bind_some] at htk
   refine W.sr (WL.z (W.sr (WL.c 1 underlying216 rfl sizeOf9 rfl isAgg9 h rfl ?_)))
   refine WL.e (eff_call call195 (number_ok (n := n) hnb h)) ?_
   rintro _ w ⟨rfl, h⟩
   refine WL.m (WL.v (run_extract rfl rfl) (WL.v (run_extract rfl rfl) (WL.a (WL.z (W.region (WL.f 2 underlying127 rfl sizeOf3 rfl rfl ?_))))))
   refine WL.l isAgg3 rfl (h.cellB rfl) (WL.m (WL.v (run_minI rfl rfl) (WL.f 2 underlying127 rfl sizeOf3 rfl rfl (WL.e (eff_store (v := .int .i64 _) h sizeOf3 rfl rfl rfl rfl rfl) ?_))))
   rintro _ w h
   try simp only [Nat.zero_add, Nat.add_zero, List.set_cons_zero, List.set_cons_succ] at h
   refine WL.nil (W.sr (WL.m (WL.v (run_not rfl) (WL.nil (W.cs ?_)))))
   refine W.region (WL.v (run_add rfl rfl (by omega) (by omega)) (WL.m (WL.nil ?_)))
   have em : min (p.burst : Int) (n : Int) = ((min p.burst n : Nat) : Int) := by omega
   rw [em] at h
   exact ⟨k + 1, ⟨by omega, _, { p with burst := min p.burst n }, htk, mkE_of ⟨rfl, rfl, rfl, rfl, rfl, rfl, rfl, trivial⟩, h.to⟩, by show l.length - (k + 1) < l.length - k; omega⟩
  refine W.sr (WL.v (run_eqlStrD (a := x.1) (b := [73, 109, 109, 101, 100, 105, 97, 116, 101, 68, 97, 116, 97]) rfl rfl) (WL.z ?_))
  refine W.condIf rfl (fun c21 => ?_) (fun c21 => ?_)
  ·
   rw [if_neg c16, if_pos c21] at htk
   cases hnb : boolB x.2 with
   | none => rw [hnb] at htk; cases htk
   | some y => ?_
   rw [hnb] at htk
   dsimp only [Option.map_some, Option.bind_some] at htk
   have hbs := boolB_some hnb
   obtain ⟨hb1, hb2⟩ := hbs
   refine W.sr (WL.z (W.sr (WL.c 1 underlying216 rfl sizeOf9 rfl isAgg9 h rfl ?_)))
   refine WL.e (eff_call call196 (tbool_ok (s := x.2) h)) ?_
   rintro _ w ⟨hv, h⟩
   rw [hb2, hb1] at hv
   subst hv
   refine WL.m (WL.v (run_extract rfl rfl) (WL.v (run_extract rfl rfl) (WL.a (WL.z (W.region (WL.f 3 underlying127 rfl sizeOf4 rfl rfl ?_))))))
   refine WL.boolB (run_load1 isAgg4 rfl (h.cellB rfl)) rfl rfl (fun c44 => ?_) (fun c44 => ?_)
   ·
    refine WL.m (WL.m (WL.pt (WL.f 3 underlying127 rfl sizeOf4 rfl rfl (WL.e (eff_store (v := .bool _) h sizeOf4 rfl rfl rfl rfl rfl) ?_))))
    rintro _ w h
    try simp only [Nat.zero_add, Nat.add_zero, List.set_cons_zero, List.set_cons_succ] at h
    refine WL.nil (W.sr (WL.m (WL.v (run_not rfl) (WL.nil (W.cs ?_)))))
    refine W.region (WL.v (run_add rfl rfl (by omega) (by omega)) (WL.m (WL.nil ?_)))
    rw [c44, Bool.true_and] at htk
    exact ⟨k + 1, ⟨by omega, _, { p with imm := y }, htk, mkE_of ⟨rfl, rfl, rfl, rfl, rfl, rfl, rfl, trivial⟩, h.to⟩, by show l.length - (k + 1) < l.length - k; omega⟩
   refine WL.m (WL.s (WL.pf (WL.f 3 underlying127 rfl sizeOf4 rfl rfl (WL.e (eff_store (v := .bool _) h sizeOf4 rfl rfl rfl rfl rfl) ?_))))
   rintro _ w h
   try simp only [Nat.zero_add, Nat.add_zero, List.set_cons_zero, List.set_cons_succ] at h
   refine WL.nil (W.sr (WL.m (WL.v (run_not rfl) (WL.nil (W.cs ?_)))))
   refine W.region (WL.v (run_add rfl rfl (by omega) (by omega)) (WL.m (WL.nil ?_)))
   rw [c44, Bool.false_and] at htk
   exact ⟨k + 1, ⟨by omega, _, { p with imm := false }, htk, mkE_of ⟨rfl, rfl, rfl, rfl, rfl, rfl, rfl, trivial⟩, h.to⟩, by show l.length - (k + 1) < l.length - k; omega⟩
  refine W.sr (WL.v (run_eqlStrD (a := x.1) (b := [72, 101, 97, 100, 101, 114, 68, 105, 103, 101, 115, 116]) rfl rfl) (WL.z ?_))
  refine W.condIf rfl (fun c26 => ?_) (fun c26 => ?_)
  ·
   rw [if_neg c16, if_neg c21, if_pos c26] at htk
   dsimp only [Option.bind_some] at htk
   refine W.region (WL.f 4 underlying127 rfl sizeOf4 rfl rfl ?_)
   refine WL.boolB (run_load1 isAgg4 rfl (h.cellB rfl)) rfl rfl (fun c52 => ?_) (fun c52 => ?_)
   ·
    refine WL.m (WL.c 1 underlying216 rfl sizeOf9 rfl isAgg9 h rfl (WL.v (run_eqlStrD (a := x.2) (b := [67, 82, 67, 51, 50, 67]) rfl rfl) (WL.pt (WL.f 4 underlying127 rfl sizeOf4 rfl rfl (WL.e (eff_store (v := .bool _) h sizeOf4 rfl rfl rfl rfl rfl) ?_)))))
    rintro _ w h
    try simp only [Nat.zero_add, Nat.add_zero, List.set_cons_zero, List.set_cons_succ] at h
    refine WL.nil (W.sr (WL.m (WL.v (run_not rfl) (WL.nil (W.cs ?_)))))
    refine W.region (WL.v (run_add rfl rfl (by omega) (by omega)) (WL.m (WL.nil ?_)))
    rw [c52, Bool.true_and] at htk
    exact ⟨k + 1, ⟨by omega, _, { p with dig := decide (x.2 = [67, 82, 67, 51, 50, 67]) }, htk, mkE_of ⟨rfl, rfl, rfl, rfl, rfl, rfl, rfl, trivial⟩, h.to⟩, by show l.length - (k + 1) < l.length - k; omega⟩
   refine WL.m (WL.s (WL.s (WL.s (WL.pf (WL.f 4 underlying127 rfl sizeOf4 rfl rfl (WL.e (eff_store (v := .bool _) h sizeOf4 rfl rfl rfl rfl rfl) ?_))))))
   rintro _ w h
   try simp only [Nat.zero_add, Nat.add_zero, List.set_cons_zero, List.set_cons_succ] at h
   refine WL.nil (W.sr (WL.m (WL.v (run_not rfl) (WL.nil (W.cs ?_)))))
   refine W.region (WL.v (run_add rfl rfl (by omega) (by omega)) (WL.m (WL.nil ?_)))
   rw [c52, Bool.false_and] at htk
   exact ⟨k + 1, ⟨by omega, _, { p with dig := false }, htk, mkE_of ⟨rfl, rfl, rfl, rfl, rfl, rfl, rfl, trivial⟩, h.to⟩, by show l.length - (k + 1) < l.length - k; omega⟩
  rw [if_neg c16, if_neg c21, if_neg c26] at htk
  dsimp only [Option.bind_some] at htk
  refine W.skip (W.sr (WL.m (WL.v (run_not rfl) (WL.nil (W.cs ?_)))))
  refine W.region (WL.v (run_add rfl rfl (by omega) (by omega)) (WL.m (WL.nil ?_)))
  exact ⟨k + 1, ⟨by omega, _, p, htk, mkE_of ⟨rfl, rfl, rfl, rfl, rfl, rfl, rfl, trivial⟩, h.to⟩, by show l.length - (k + 1) < l.length - k; omega⟩
 refine W.exit (W.seq ?_)
 have ek : k = l.length := by omega
 rw [ek, List.drop_length, takeK] at htk
 cases htk
 refine W.region (WL.v (run_loadB (vs := q.cells) h isAgg127 sizeOf127 rfl rfl rfl) (WL.e (eff_storeW (vs := q.cells) h sizeOf127 rfl rfl rfl rfl rfl) ?_))
 rintro _ w h
 refine WL.z (W.ret (bodyQ.rctB (vs := q.cells) (v2 := .int .i64 0) h results175 isAgg127 sizeOf127 rfl rfl rfl rfl ?_))
 exact ⟨rfl, h.to⟩
end Go.Proofs.YtjfmjbmkkpkppaaGreatDoor
namespace Go.Sl.TpM
open Go Go.Sl Go.Sl.ByM
structure AkA where
 ac : Option Addr
 cc : Nat
 ad : Option Addr
 cd : Nat
 ah : Option Addr
 ch : Nat
def akCells (a : Ak) (y : AkA) : List Value := [.int .u32 (a.tag : Int), .slice y.ac a.cdb.length y.cc, .slice y.ad a.data.length y.cd, .slice y.ah a.hav.length y.ch, .bool a.sent, .bool false]
def okAk (a : Ak) : Prop := a.cdb.length = 16 ∧ a.data.length ≤ 4096 ∧ a.tag < 4294967296 ∧ a.hav.length ≤ 8192
def nL (l : Option Ak) : Nat := match l with
 | none => 0
 | some _ => 1
def nD (l : Option (Nat × List UInt8)) : Nat := match l with
 | none => 0
 | some _ => 1
def LsP (al : Option Addr) (cl : Nat) : Option Ak → HProp
 | none => Own 6 (.slice al 0 cl) 0 []
 | some a => Ex fun (y : AkA) => Pack (okAk a) [Own 6 (.slice al 1 cl) 1 (akCells a y), OwnB (.slice y.ac a.cdb.length y.cc) a.cdb, OwnB (.slice y.ad a.data.length y.cd) a.data, OwnB (.slice y.ah a.hav.length y.ch) a.hav]
def dnCells (d : Nat × List UInt8) (y : Option Addr × Nat) : List Value := [.int .u32 (d.1 : Int), .int .i64 0, .int .i64 0, .int .i64 0, .slice y.1 d.2.length y.2, .int .i64 0]
def DnP (ad : Option Addr) (cd : Nat) : Option (Nat × List UInt8) → HProp
 | none => Own 6 (.slice ad 0 cd) 0 []
 | some d => Ex fun (y : Option Addr × Nat) => Pack True [Own 6 (.slice ad 1 cd) 1 (dnCells d y), OwnB (.slice y.1 d.2.length y.2) d.2]
structure ClA where
 br : Nat
 al : Option Addr
 cl : Nat
 aw : Option Addr
 cs : Nat
 ad : Option Addr
 cd : Nat
def okCl (c : Cl) : Prop := okPm c.p ∧ c.sn < 4294967296 ∧ c.max < 4294967296 ∧ c.tag ≤ 1000 ∧ c.say.length ≤ 100
def clCells (c : Cl) (x : ClA) : List Value := [.string ⟨c.p.name.toArray⟩, .int .i64 (c.p.maxd : Int), .int .i64 (c.p.burst : Int), .bool c.p.imm, .bool c.p.dig, .pointer (some ⟨x.br, 0, none⟩), .bool c.open_, .bool false, .bool c.asked, .bool false, .bool false, .int .u32 (c.sn : Int), .int .u32 (c.max : Int), .int .u32 (c.tag : Int), .slice x.al (nL c.l) x.cl, .slice x.aw c.say.length x.cs, .slice x.ad (nD c.done) x.cd]
def ClP (T TR b : Nat) (c : Cl) : HProp := Ex fun (x : ClA) => Pack (okCl c) [blk b (clCells c x) T, RdrP TR x.br c.r, LsP x.al x.cl c.l, OwnB (.slice x.aw c.say.length x.cs) c.say, DnP x.ad x.cd c.done]
theorem openCl {W0 w : World} {L : List HProp} {T TR b : Nat} {c : Cl} (H : On W0 (ClP T TR b c :: L) w) : ∃ x : ClA, okCl c ∧ On W0 (blk b (clCells c x) T :: RdrP TR x.br c.r :: LsP x.al x.cl c.l :: OwnB (.slice x.aw c.say.length x.cs) c.say :: DnP x.ad x.cd c.done :: L) w := by
 obtain ⟨x, H⟩ := H.ex
 obtain ⟨hw, H⟩ := H.unpack
 exact ⟨x, hw, H⟩
theorem closeCl {W0 w : World} {L : List HProp} {T TR b : Nat} {c : Cl} (x : ClA) (hw : okCl c) (H : On W0 (blk b (clCells c x) T :: RdrP TR x.br c.r :: LsP x.al x.cl c.l :: OwnB (.slice x.aw c.say.length x.cs) c.say :: DnP x.ad x.cd c.done :: L) w) : On W0 (ClP T TR b c :: L) w :=
 On.exI x (On.pack hw H)
theorem openLs {W0 w : World} {L : List HProp} {al : Option Addr} {cl : Nat} {a : Ak} (H : On W0 (LsP al cl (some a) :: L) w) : ∃ y : AkA, okAk a ∧ On W0 (Own 6 (.slice al 1 cl) 1 (akCells a y) :: OwnB (.slice y.ac a.cdb.length y.cc) a.cdb :: OwnB (.slice y.ad a.data.length y.cd) a.data :: OwnB (.slice y.ah a.hav.length y.ch) a.hav :: L) w := by
 obtain ⟨x, H⟩ := H.ex
 obtain ⟨hw, H⟩ := H.unpack
 exact ⟨x, hw, H⟩
theorem closeLs {W0 w : World} {L : List HProp} {al : Option Addr} {cl : Nat} {a : Ak} (y : AkA) (hw : okAk a) (H : On W0 (Own 6 (.slice al 1 cl) 1 (akCells a y) :: OwnB (.slice y.ac a.cdb.length y.cc) a.cdb :: OwnB (.slice y.ad a.data.length y.cd) a.data :: OwnB (.slice y.ah a.hav.length y.ch) a.hav :: L) w) : On W0 (LsP al cl (some a) :: L) w := On.exI y (On.pack hw H)
theorem openDn {W0 w : World} {L : List HProp} {ad : Option Addr} {cd : Nat} {d : Nat × List UInt8} (H : On W0 (DnP ad cd (some d) :: L) w) : ∃ y : Option Addr × Nat, On W0 (Own 6 (.slice ad 1 cd) 1 (dnCells d y) :: OwnB (.slice y.1 d.2.length y.2) d.2 :: L) w := by
 obtain ⟨x, H⟩ := H.ex
 exact ⟨x, H.unpack.2⟩
theorem closeDn {W0 w : World} {L : List HProp} {ad : Option Addr} {cd : Nat} {d : Nat × List UInt8} (y : Option Addr × Nat) (H : On W0 (Own 6 (.slice ad 1 cd) 1 (dnCells d y) :: OwnB (.slice y.1 d.2.length y.2) d.2 :: L) w) : On W0 (DnP ad cd (some d) :: L) w := On.exI y (On.pack trivial H)
theorem encP_len {p : Pd} (h : okPd p) : (encP p).length ≤ 4200 := by
 obtain ⟨⟨h1, _⟩, h2, _⟩ := h
 unfold encP
 rw [List.length_append, List.length_append, head48_len h1]
 have e4 : (four (crcS (head48 p))).length = 4 := rfl
 rw [e4]
 unfold tailB
 split
 · simp
 rw [List.length_append, padM_len]
 have e5 : (four (crcS (padM p.data))).length = 4 := rfl
 rw [e5]; omega
theorem next_nums {r : Rdr} (h : r.next.1.2 = true) : ∀ v ∈ nums r.next.1.1, v < 4294967296 := by
 unfold Rdr.next at h ⊢
 split at h
 · cases h
 rename_i h1
 split at h
 · rename_i h2
   rw [if_neg h1, if_pos h2]
   intro v hv
   have e : nums (decP r.b) = [numAt r.b 0, numAt r.b 1, numAt r.b 2, numAt r.b 3, numAt r.b 4, numAt r.b 5] := rfl
   dsimp only at hv
   rw [e] at hv
   simp only [List.mem_cons, List.not_mem_nil, or_false] at hv
   rcases hv with rfl | rfl | rfl | rfl | rfl | rfl <;> exact numAt_lt _ _
 split at h <;> cases h
end Go.Sl.TpM
namespace Go.Proofs.YtjfmjbmkkpkppaaGreatDoor
open Go.Proofs.Tryz
open Go Go.Sl Go.Sl.BitM Go.Sl.SpM Go.Sl.RsM Go.Sl.ByM Go.Sl.UnM Go.Sl.TpM
set_option maxHeartbeats 1000000
set_option maxRecDepth 8000
variable {W0 w : World} {L F : List HProp}
theorem cnewc_ok {p : Pm} (ok : okPm p) (h : On W0 L w) : Calls Tryz.prog 65 #[.agg p.cells.toArray] w (Ret fun v w' => ∃ bc, v = .pointer (some ⟨bc, 0, none⟩) ∧ On W0 (ClP 179 117 bc (newCl p) :: L) w') := by
 refine enter func65 rfl ntmps65 rfl (W.sr (WL.e (eff_box (v := .agg p.cells.toArray) (l := p.cells) h rfl rfl) ?_))
 rintro _ w ⟨b1, rfl, h⟩
 have h : On W0 (blk b1 [.string ⟨p.name.toArray⟩, .int .i64 (p.maxd : Int), .int .i64 (p.burst : Int), .bool p.imm, .bool p.dig] 127 :: _) w := h
 refine WL.z (W.seq ?_)
 refine W.draw Tryz.follows h (fun w h => ?_)
 refine WT.loadN (vs := [.string _, .int .i64 _, .int .i64 _, .bool _, .bool _]) 0 rfl (by kernel_rfl) isAgg127 sizeOf127 rfl rfl (h.rowV (n := 5) rfl) rfl rfl (WT.e 1 [true] rfl (eff_call call22 (newRd_ok h)) ?_)
 rintro _ w ⟨br, rfl, h⟩
 refine ⟨⟨(h.rowV (n := 5) rfl), trivial⟩, ?_⟩
 refine WT.p 2 rfl (fun w' => (run_buildS (pl := [(0, 5), (5, 1), (6, 1), (7, 1), (8, 1), (9, 1), (10, 1), (11, 1), (12, 1), (13, 1), (14, 1), (15, 1), (16, 1)]) (out := [.string _, .int .i64 _, .int .i64 _, .bool _, .bool _, .pointer _, .bool _, .bool _, .bool _, .bool _, .bool _, .int .u32 _, .int .u32 _, .int .u32 _, .slice _ _ _, .slice _ _ _, .slice _ _ _]) underlying179 zeroValue179 (fun w => by kernel_rfl) rfl (⟨⟨_, _, rfl, rfl, by decide⟩, ⟨⟨_, _, rfl, rfl, by decide⟩, trivial⟩⟩) rfl)) ?_
 refine WT.e 3 [false] rfl (eff_box (v := .agg _) (l := [.string _, .int .i64 _, .int .i64 _, .bool _, .bool _, .pointer _, .bool _, .bool _, .bool _, .bool _, .bool _, .int .u32 _, .int .u32 _, .int .u32 _, .slice _ _ _, .slice _ _ _, .slice _ _ _]) h rfl rfl) ?_
 rintro _ w ⟨b6, rfl, h⟩
 refine ⟨trivial, ?_⟩
 refine WT.a 4 rfl (WT.dn (W.ret (bodyQ.r1 (v := .pointer _) results65 rfl ?_)))
 have h := h.ownEmpty 1 none
 have h := h.ownEmpty 6 none
 have h := h.ownEmpty 6 none
 refine ⟨_, rfl, closeCl (c := newCl p) ⟨br, none, 0, none, 0, none, 0⟩ ⟨ok, (show (0 : Nat) < 4294967296 by decide), (show (0 : Nat) < 4294967296 by decide), (show (0 : Nat) ≤ 1000 by decide), (show (0 : Nat) ≤ 100 by decide)⟩ ?_⟩
 show On W0 (blk _ (clCells (newCl p) ⟨br, none, 0, none, 0, none, 0⟩) 179 :: RdrP 117 br ⟨[], 0⟩ :: LsP none 0 none :: OwnB (.slice none ([] : List UInt8).length 0) [] :: DnP none 0 none :: L) w
 have h : On W0 (DnP none 0 none :: LsP none 0 none :: OwnB (.slice none ([] : List UInt8).length 0) [] :: blk _ (clCells (newCl p) ⟨br, none, 0, none, 0, none, 0⟩) 179 :: RdrP 117 br ⟨[], 0⟩ :: _) w := h
 exact h.to
theorem ctell_ok {bc : Nat} {c : Cl} {x : ClA} {p : Pd} {ap : Option Addr} {cp : Nat} (hok : okPd p) (hs : c.say.length ≤ 100000) (h : On W0 (blk bc (clCells c x) 179 :: OwnB (.slice x.aw c.say.length x.cs) c.say :: L) w) (C : Gives L (Bytes (.slice ap p.data.length cp) p.data)) : Calls Tryz.prog 130 #[.pointer (some ⟨bc, 0, none⟩), .agg (Pd.cells p (.slice ap p.data.length cp)).toArray] w (Ret fun v w' => ∃ as' cs', On W0 (blk bc (clCells (c.tell p) { x with aw := as', cs := cs' }) 179 :: OwnB (.slice as' (c.tell p).say.length cs') (c.tell p).say :: L) w') := by
 refine enter func130 rfl ntmps130 rfl ?_
 have hmx := maxLen_eq
 have hel := encP_len hok
 have hc16 : p.cdb.length = 16 := hok.1.1
 have h : On W0 (blk bc [.string ⟨c.p.name.toArray⟩, .int .i64 (c.p.maxd : Int), .int .i64 (c.p.burst : Int), .bool c.p.imm, .bool c.p.dig, .pointer (some ⟨x.br, 0, none⟩), .bool c.open_, .bool false, .bool c.asked, .bool false, .bool false, .int .u32 (c.sn : Int), .int .u32 (c.max : Int), .int .u32 (c.tag : Int), .slice x.al (nL c.l) x.cl, .slice x.aw c.say.length x.cs, .slice x.ad (nD c.done) x.cd] 179 :: _) w := h
 refine W.sr (WL.e (eff_box (v := .agg (Pd.cells p (.slice ap p.data.length cp)).toArray) (l := Pd.cells p (.slice ap p.data.length cp)) h rfl rfl) ?_)
 rintro _ w ⟨b3, rfl, h⟩
 refine WL.nil (W.sr (WL.v (run_loadB (vs := Pd.cells p (.slice ap p.data.length cp)) h isAgg36 sizeOf36 rfl (List.take_of_length_le (Nat.le_of_eq (cells_len hc16))) (cells_len hc16)) (WL.e (eff_call call10 (pencode_ok hok h (Gives.to C))) ?_)))
 rintro _ w ⟨a8, rfl, h⟩
 refine WL.m (WL.v (run_extract rfl rfl) (WL.v (run_extract rfl rfl) (WL.a (WL.z (W.region (WL.m ?_))))))
 refine WL.m (WL.n rfl (WL.c 15 underlying179 rfl sizeOf26 rfl isAgg26 h rfl (WL.m (WL.e (eff_app (c2 := (encP p).length) (bytes := 1) (h.own (.slice x.aw c.say.length x.cs)) rfl rfl (h.cellsO (v := .slice a8 (encP p).length (encP p).length)) underlying26 rfl rfl rfl rfl rfl (by omega) (by omega) bytes_one) ?_))))
 rintro _ w ⟨a17, c17, hv17, h⟩
 have el : c.say.length + (encP p).length = (c.say ++ encP p).length := List.length_append.symm
 have ev : bytesV c.say ++ bytesV (encP p) = bytesV (c.say ++ encP p) := by simp [bytesV]
 rw [ev, el] at h
 rw [el] at hv17
 subst hv17
 refine WL.n rfl (WL.f 15 underlying179 rfl sizeOf26 rfl rfl (WL.e (eff_store (v := .slice a17 (c.say ++ encP p).length c17) h sizeOf26 rfl rfl rfl rfl rfl) ?_))
 rintro _ w h
 try simp only [Nat.zero_add, Nat.add_zero, List.set_cons_zero, List.set_cons_succ] at h
 refine WL.nil (bodyQ.fall (bodyQ.r0 results130 ?_))
 refine ⟨a17, c17, ?_⟩
 show On W0 (blk bc [.string ⟨c.p.name.toArray⟩, .int .i64 (c.p.maxd : Int), .int .i64 (c.p.burst : Int), .bool c.p.imm, .bool c.p.dig, .pointer (some ⟨x.br, 0, none⟩), .bool c.open_, .bool false, .bool c.asked, .bool false, .bool false, .int .u32 (c.sn : Int), .int .u32 (c.max : Int), .int .u32 (c.tag : Int), .slice x.al (nL c.l) x.cl, .slice a17 (c.say ++ encP p).length c17, .slice x.ad (nD c.done) x.cd] 179 :: OwnB (.slice a17 (c.say ++ encP p).length c17) (c.say ++ encP p) :: L) w
 exact h.to
theorem cwait_ok {bc : Nat} {c : Cl} {x : ClA} (hl : c.l = none) (h : On W0 (blk bc (clCells c x) 179 :: L) w) : Calls Tryz.prog 102 #[.pointer (some ⟨bc, 0, none⟩)] w (Ret fun v w' => v = .int .i64 0 ∧ On W0 (blk bc (clCells c x) 179 :: L) w') := by
 refine enter func102 rfl ntmps102 rfl ?_
 have e0 : nL c.l = 0 := by rw [hl]; rfl
 have h : On W0 (blk bc [.string ⟨c.p.name.toArray⟩, .int .i64 (c.p.maxd : Int), .int .i64 (c.p.burst : Int), .bool c.p.imm, .bool c.p.dig, .pointer (some ⟨x.br, 0, none⟩), .bool c.open_, .bool false, .bool c.asked, .bool false, .bool false, .int .u32 (c.sn : Int), .int .u32 (c.max : Int), .int .u32 (c.tag : Int), .slice x.al (nL c.l) x.cl, .slice x.aw c.say.length x.cs, .slice x.ad (nD c.done) x.cd] 179 :: _) w := h
 rw [e0] at h
 refine W.sr (WL.z (W.sr (WL.z ?_)))
 refine W.seq (W.sr (WL.m (WL.n rfl (WL.c 14 underlying179 rfl sizeOf177 rfl isAgg177 h rfl (WL.v (run_lenSlice underlying177 rfl) ?_)))))
 refine WL.m (WL.nil (W.block ?_))
 refine W.loop (fun (k : Nat) env w => ∃ (j : Env), env = mkE j [(3, .int .i64 0), (9, .slice x.al 0 x.cl), (10, .int .i64 0), (11, .int .i64 0)] ∧ On W0 (blk bc [.string ⟨c.p.name.toArray⟩, .int .i64 (c.p.maxd : Int), .int .i64 (c.p.burst : Int), .bool c.p.imm, .bool c.p.dig, .pointer (some ⟨x.br, 0, none⟩), .bool c.open_, .bool false, .bool c.asked, .bool false, .bool false, .int .u32 (c.sn : Int), .int .u32 (c.max : Int), .int .u32 (c.tag : Int), .slice x.al (0) x.cl, .slice x.aw c.say.length x.cs, .slice x.ad (nD c.done) x.cd] 179 :: L) w) (fun k => k) (0) ?_ ?_
 · exact ⟨_, mkE_of ⟨rfl, rfl, rfl, rfl, trivial⟩, h⟩
 clear h
 rintro k env w ⟨j, rfl, h⟩
 refine W.sr (WL.v (run_lssF rfl rfl (by decide)) (WL.nil (W.seq (W.cf (W.exit (W.seq ?_))))))
 refine W.region (WL.m (WL.z (W.ret (bodyQ.r1 (v := .int .i64 _) results102 rfl ?_))))
 have h : On W0 (blk bc (clCells c x) 179 :: L) w := by unfold clCells; rw [e0]; exact h
 exact ⟨rfl, h⟩
theorem cdata_ok {kind at_ n key new typ : Int} {force : Bool} {data : List UInt8} {ax : Option Addr} {cx : Nat} (hk : kind = 2 ∨ kind = 3) (hd : data.length ≤ 4096) (h : On W0 L w) (C : Gives L (Bytes (.slice ax data.length cx) data)) : Calls Tryz.prog 101 #[.agg #[.int .i64 kind, .int .i64 at_, .int .i64 n, .slice ax data.length cx, .int .u64 key, .int .u64 new, .int .i64 typ, .bool force]] w (Ret fun v w' => ∃ a c, v = .tuple #[.slice a data.length c, .bool (decide ((data.length : Int) = outN (⟨kind, at_, n, data, key, new, typ, force⟩ : Cm)))] ∧ On W0 (OwnB (.slice a data.length c) data :: L) w') := by
 refine enter func101 rfl ntmps101 rfl (W.sr (WL.e (eff_box (v := .agg #[.int .i64 kind, .int .i64 at_, .int .i64 n, .slice ax data.length cx, .int .u64 key, .int .u64 new, .int .i64 typ, .bool force]) (l := [.int .i64 kind, .int .i64 at_, .int .i64 n, .slice ax data.length cx, .int .u64 key, .int .u64 new, .int .i64 typ, .bool force]) h rfl rfl) ?_))
 rintro _ w ⟨b1, rfl, h⟩
 refine WL.a (WL.z (W.seq (W.sr (WL.c 0 underlying29 rfl sizeOf3 rfl isAgg3 h rfl ?_))))
 refine WL.nil (W.block (W.seq (W.sr (WL.v (run_eqlF rfl rfl (by omega)) (WL.z ?_)))))
 refine W.cf (W.sr (WL.v (run_eqlF rfl rfl (by omega)) (WL.z (W.cf (W.seq ?_)))))
 refine W.region (WL.v (run_eqlF rfl rfl (by omega)) (WL.z (W.cf (W.sr (WL.v (run_eqlF rfl rfl (by omega)) ?_)))))
 refine WL.z (W.cf (W.sr (WL.v (run_eqlF rfl rfl (by omega)) (WL.z ?_))))
 refine W.cf (W.region (WL.v (run_eqlF rfl rfl (by omega)) (WL.z (W.cs (W.seq ?_)))))
 refine W.draw Tryz.follows h (fun w h => ?_)
 refine WT.f 0 3 rfl underlying29 rfl sizeOf26 rfl rfl (WT.l 1 rfl isAgg26 rfl (h.cellB rfl) (WT.f 3 3 rfl underlying29 rfl sizeOf26 rfl rfl (WT.l 4 rfl isAgg26 rfl (h.cellB rfl) (WT.p 5 rfl (fun w' => (run_lenSlice underlying26 rfl)) (WT.loadN (vs := qv3) 6 rfl (by kernel_rfl) isAgg29 sizeOf29 rfl rfl (h.rowV (n := 8) rfl) rfl rfl (WT.e 2 [true, true, false] rfl (eff_call call47 (clone_bytes (ao := ax) (cap := cx) (bs := data) h (Gives.to C) (by omega))) ?_))))))
 rintro _ w ⟨a20, c20, rfl, h⟩
 refine ⟨⟨(h.rowV (n := 8) rfl), h.cellB rfl, trivial⟩, ?_⟩
 refine WT.e 7 [false, true] rfl (eff_call call16 (cout_n_ok (kind := kind) (at_ := at_) (n := n) (key := key) (new := new) (typ := typ) (force := force) (data := data) (ax := ax) (cx := cx) h)) ?_
 rintro _ w ⟨rfl, h⟩
 refine ⟨⟨h.cellB rfl, trivial⟩, ?_⟩
 refine WT.p 8 rfl (fun w' => (run_eql rfl rfl)) (WT.a 9 rfl (WT.a 10 rfl (WT.dn (W.ret (bodyQ.r2 (v1 := .slice _ _ _) (v2 := .bool _) results101 rfl rfl ?_)))))
 exact ⟨a20, c20, rfl, h.to⟩
theorem encRW_ok {kind : Int} {at_ n : Nat} {key new : Int} {typ : Nat} {data : List UInt8} {ax : Option Addr} {cx : Nat} (hat : at_ ≤ 4611686018427387904) (hn : n ≤ 4294967295) (htyp : typ ≤ 15) {b : List UInt8} (hk : kind = 2 ∨ kind = 3) (hb : encC (⟨kind, (at_ : Int), (n : Int), data, key, new, (typ : Int), false⟩ : Cm) = some b) (h : On W0 L w) : Calls Tryz.prog 8 #[.agg #[.int .i64 kind, .int .i64 (at_ : Int), .int .i64 (n : Int), .slice ax data.length cx, .int .u64 key, .int .u64 new, .int .i64 (typ : Int), .bool false]] w (Ret fun v w' => ∃ a, b.length = 16 ∧ v = .tuple #[.slice a b.length b.length, .int .i64 0] ∧ On W0 (OwnB (.slice a b.length b.length) b :: L) w') := by
 have hl : ∀ (o : UInt8), (([o, 0] ++ be at_ 8) ++ (be n 4 ++ [0, 0])).length = 16 := by
   intro o
   rw [List.length_append, List.length_append, List.length_append, be_length, be_length]; rfl
 rcases hk with rfl | rfl
 · have e : b = ([136, 0] ++ be at_ 8) ++ (be n 4 ++ [0, 0]) := by
     have h2 : encC ⟨2, (at_ : Int), (n : Int), data, key, new, (typ : Int), false⟩ = some (([136, 0] ++ be at_ 8) ++ (be n 4 ++ [0, 0])) := by
       show (if (false || (true && (decide ((at_ : Int) < 0) || decide ((n : Int) < 0))) || (true && decide ((4294967295 : Int) < (n : Int))) || (false && decide ((255 : Int) < (n : Int)))) = true then none else some ([136, 0] ++ be ((at_ : Int)).toNat 8 ++ be ((n : Int)).toNat 4 ++ [0, 0])) = _
       rw [decide_eq_false (show ¬ ((at_ : Int) < 0) by omega), decide_eq_false (show ¬ ((n : Int) < 0) by omega), decide_eq_false (show ¬ ((4294967295 : Int) < (n : Int)) by omega)]
       simp
     rw [h2] at hb; cases hb; rfl
   have hbl : b.length = 16 := by rw [e]; exact hl 136
   refine (enc_2_ok (key := key) (new := new) (data := data) (ax := ax) (cx := cx) hat hn htyp h).mono fun e2 w' he => ?_
   obtain ⟨v, he, a, hv, h⟩ := he
   rw [← e] at h
   exact ⟨v, he, a, hbl, by rw [hbl]; exact hv, by unfold OwnB; rw [hbl]; exact h⟩
 have e : b = ([138, 0] ++ be at_ 8) ++ (be n 4 ++ [0, 0]) := by
   have h2 : encC ⟨3, (at_ : Int), (n : Int), data, key, new, (typ : Int), false⟩ = some (([138, 0] ++ be at_ 8) ++ (be n 4 ++ [0, 0])) := by
     show (if (false || (true && (decide ((at_ : Int) < 0) || decide ((n : Int) < 0))) || (true && decide ((4294967295 : Int) < (n : Int))) || (false && decide ((255 : Int) < (n : Int)))) = true then none else some ([138, 0] ++ be ((at_ : Int)).toNat 8 ++ be ((n : Int)).toNat 4 ++ [0, 0])) = _
     rw [decide_eq_false (show ¬ ((at_ : Int) < 0) by omega), decide_eq_false (show ¬ ((n : Int) < 0) by omega), decide_eq_false (show ¬ ((4294967295 : Int) < (n : Int)) by omega)]
     simp
   rw [h2] at hb; cases hb; rfl
 have hbl : b.length = 16 := by rw [e]; exact hl 138
 refine (enc_3_ok (key := key) (new := new) (data := data) (ax := ax) (cx := cx) hat hn htyp h).mono fun e2 w' he => ?_
 obtain ⟨v, he, a, hv, h⟩ := he
 rw [← e] at h
 exact ⟨v, he, a, hbl, by rw [hbl]; exact hv, by unfold OwnB; rw [hbl]; exact h⟩
theorem do_some {c c' : Cl} {x : Cm} (hm : c.do_ x = some c') : ∃ b, encC x = some b ∧ c.l = none ∧ (x.data.length : Int) = outN x ∧ (x.kind = 2 ∨ x.kind = 3) ∧ x.data.length ≤ 4096 ∧ c.tag < 1000 ∧ b.length = 16 ∧ c' = { c with tag := c.tag + 1, l := some ⟨c.tag + 1, b, x.data, [], false⟩ } := by
 unfold Cl.do_ at hm
 cases hb : encC x with
 | none => rw [hb] at hm; cases hm
 | some b =>
   rw [hb] at hm
   simp only [Option.bind_some] at hm
   split at hm
   · rename_i hc
     simp only [Bool.and_eq_true, Bool.or_eq_true, decide_eq_true_eq, Option.isNone_iff_eq_none] at hc
     cases hm
     obtain ⟨⟨⟨⟨⟨h1, h2⟩, h3⟩, h4⟩, h5⟩, h6⟩ := hc
     exact ⟨b, rfl, h1, h2, h3, h4, h5, h6, rfl⟩
   cases hm
theorem cdo_ok {kind : Int} {at_ n : Nat} {key new : Int} {typ : Nat} {data : List UInt8} {ax : Option Addr} {cx : Nat} {bc : Nat} {c c' : Cl} (hat : at_ ≤ 4611686018427387904) (hn : n ≤ 4294967295) (htyp : typ ≤ 15) (hm : c.do_ (⟨kind, (at_ : Int), (n : Int), data, key, new, (typ : Int), false⟩ : Cm) = some c') (h : On W0 (ClP 179 117 bc c :: L) w) (C : Gives L (Bytes (.slice ax data.length cx) data)) : Calls Tryz.prog 70 #[.pointer (some ⟨bc, 0, none⟩), .agg #[.int .i64 kind, .int .i64 (at_ : Int), .int .i64 (n : Int), .slice ax data.length cx, .int .u64 key, .int .u64 new, .int .i64 (typ : Int), .bool false]] w (Ret fun v w' => v = .tuple #[.int .u32 (c'.tag : Int), .int .i64 0] ∧ On W0 (ClP 179 117 bc c' :: L) w') := by
 refine enter func70 rfl ntmps70 rfl ?_
 have hmx := maxLen_eq
 have hd_ := do_some hm
 obtain ⟨b, hb, hln, hlen, hk, hdl, htg, hb16, hc'⟩ := hd_
 dsimp only at hlen hk hdl
 subst hc'
 have ho_ := openCl h
 obtain ⟨x, hok, h⟩ := ho_
 obtain ⟨ok1, ok2, ok3, ok4, ok5⟩ := hok
 rw [hln] at h
 have h : On W0 (blk bc (clCells c x) 179 :: RdrP 117 x.br c.r :: Own 6 (.slice x.al 0 x.cl) 0 [] :: OwnB (.slice x.aw c.say.length x.cs) c.say :: DnP x.ad x.cd c.done :: L) w := h
 have e0 : nL c.l = 0 := by rw [hln]; rfl
 refine W.sr (WL.e (eff_box (v := .agg #[.int .i64 kind, .int .i64 (at_ : Int), .int .i64 (n : Int), .slice ax data.length cx, .int .u64 key, .int .u64 new, .int .i64 (typ : Int), .bool false]) (l := [.int .i64 kind, .int .i64 (at_ : Int), .int .i64 (n : Int), .slice ax data.length cx, .int .u64 key, .int .u64 new, .int .i64 (typ : Int), .bool false]) h rfl rfl) ?_)
 rintro _ w ⟨b3, rfl, h⟩
 refine WL.a (WL.z (W.sr (WL.v (run_loadB (vs := qv3) h isAgg29 sizeOf29 rfl rfl rfl) (WL.e (eff_call call8 (encRW_ok (ax := ax) (cx := cx) hat hn htyp hk hb h)) ?_))))
 rintro _ w ⟨ab, hbl, rfl, h⟩
 refine WL.m (WL.v (run_extract rfl rfl) (WL.v (run_extract rfl rfl) (WL.a (WL.z (W.sr ?_)))))
 refine WL.v (run_loadB (vs := qv3) h isAgg29 sizeOf29 rfl rfl rfl) (WL.e (eff_call call101 (cdata_ok (data := data) (ax := ax) (cx := cx) (key := key) (new := new) (force := false) hk hdl h (Gives.to C))) ?_)
 rintro _ w ⟨ad_, cd_, hv, h⟩
 rw [decide_eq_true hlen] at hv
 subst hv
 refine WL.m (WL.v (run_extract rfl rfl) (WL.v (run_extract rfl rfl) (WL.a (WL.z (W.seq (W.block ?_))))))
 refine W.sr (WL.m (WL.v (run_neqF rfl rfl (by decide)) (WL.m (WL.m (WL.v (run_not rfl) (WL.pf ?_))))))
 refine WL.z (W.cf (W.sr (WL.m (WL.e (eff_call call102 (cwait_ok (c := c) (x := x) hln (h.fetch (blk bc (clCells c x) 179)))) ?_))))
 rintro _ w ⟨rfl, h⟩
 have h : On W0 (blk bc [.string ⟨c.p.name.toArray⟩, .int .i64 (c.p.maxd : Int), .int .i64 (c.p.burst : Int), .bool c.p.imm, .bool c.p.dig, .pointer (some ⟨x.br, 0, none⟩), .bool c.open_, .bool false, .bool c.asked, .bool false, .bool false, .int .u32 (c.sn : Int), .int .u32 (c.max : Int), .int .u32 (c.tag : Int), .slice x.al (nL c.l) x.cl, .slice x.aw c.say.length x.cs, .slice x.ad (nD c.done) x.cd] 179 :: _) w := h
 rw [e0] at h
 refine WL.v (run_geqF rfl rfl (by decide)) (WL.z (W.cf (W.sr (WL.m (WL.n rfl ?_)))))
 refine WL.c 7 underlying179 rfl sizeOf4 rfl isAgg4 h rfl (WL.z (W.cs (W.sr ?_)))
 refine WL.m (WL.n rfl (WL.c 13 underlying179 rfl sizeOf24 rfl isAgg24 h rfl (WL.v (run_addU32 (m := c.tag) (n := 1) rfl rfl) (WL.n rfl (WL.f 13 underlying179 rfl sizeOf24 rfl rfl (WL.e (eff_store (v := .int .u32 _) h sizeOf24 rfl rfl rfl rfl rfl) ?_))))))
 rintro _ w h
 try simp only [Nat.zero_add, Nat.add_zero, List.set_cons_zero, List.set_cons_succ] at h
 refine WL.nil (W.seq ?_)
 have et : (c.tag + 1) % 4294967296 = c.tag + 1 := by omega
 rw [et] at h
 refine W.draw Tryz.follows h (fun w h => ?_)
 refine WT.m 0 rfl (WT.m 1 rfl (WT.n 2 rfl rfl (WT.f 3 14 rfl underlying179 rfl sizeOf177 rfl rfl (WT.l 4 rfl isAgg177 rfl (h.cellB rfl) (WT.m 5 rfl (WT.n 6 rfl rfl (WT.f 7 13 rfl underlying179 rfl sizeOf24 rfl rfl ?_)))))))
 refine WT.l 8 rfl isAgg24 rfl (h.cellB rfl) (WT.m 9 rfl (WT.m 10 rfl (WT.p 11 rfl (fun w' => (run_buildS (pl := [(0, 1), (1, 1), (2, 1), (3, 1), (4, 1), (5, 1)]) (out := [.int .u32 _, .slice _ _ _, .slice _ _ _, .slice _ _ _, .bool _, .bool _]) underlying187 zeroValue187 (fun w => by kernel_rfl) rfl (⟨⟨_, _, rfl, rfl, by decide⟩, ⟨⟨_, _, rfl, rfl, by decide⟩, ⟨⟨_, _, rfl, rfl, by decide⟩, trivial⟩⟩⟩) rfl)) ?_)))
 refine WT.e 12 [false, true] rfl (eff_mkSlice (zl := [.int .u32 0, .slice none 0 0, .slice none 0 0, .slice none 0 0, .bool false, .bool false]) (out := [.int .u32 _, .slice _ _ _, .slice _ _ _, .slice _ _ _, .bool _, .bool _]) h underlying177 sizeOf187 zeroValue187 (by decide) (by kernel_rfl) rfl rfl (by simp) (⟨⟨_, _, rfl, rfl, by decide⟩, trivial⟩) rfl rfl (by simp [maxLen])) ?_
 rintro _ w ⟨b55, rfl, h⟩
 refine ⟨⟨h.cellB rfl, trivial⟩, ?_⟩
 refine WT.e 13 [false] rfl (eff_app0 (c2 := 1) (bytes := 88) (h.fetch (Own 6 (.slice x.al 0 x.cl) 0 [])) rfl rfl (h.cellsO (v := .slice (some ⟨b55, 0, none⟩) 1 1)) underlying177 rfl rfl rfl rfl rfl (by omega) (by omega) (by simp [Value.oneCell'])) ?_
 rintro v56 w ⟨a56, c56, hv56, h⟩
 subst hv56
 refine ⟨trivial, ?_⟩
 refine WT.n 14 rfl rfl (WT.f 15 14 rfl underlying179 rfl sizeOf177 rfl rfl (WT.e 16 [] rfl (eff_store (v := .slice _ _ _) h sizeOf177 rfl rfl rfl rfl rfl) ?_))
 rintro _ w h
 try simp only [Nat.zero_add, Nat.add_zero, List.set_cons_zero, List.set_cons_succ] at h
 refine ⟨trivial, ?_⟩
 refine WT.dn (W.sr (WL.m (WL.n rfl (WL.c 13 underlying179 rfl sizeOf24 rfl isAgg24 h rfl (WL.a ?_)))))
 refine WL.z (W.ret (bodyQ.r2 (v1 := .int .u32 _) (v2 := .int .i64 _) results70 rfl rfl ?_))
 have h := h.ownEmpty 1 none
 refine ⟨rfl, closeCl (c := ({ c with tag := c.tag + 1, l := some (⟨c.tag + 1, b, data, [], false⟩ : Ak) } : Cl)) ⟨x.br, a56, c56, x.aw, x.cs, x.ad, x.cd⟩ ⟨ok1, ok2, ok3, (show c.tag + 1 ≤ 1000 by omega), ok5⟩ ?_⟩
 show On W0 (blk bc [.string ⟨c.p.name.toArray⟩, .int .i64 (c.p.maxd : Int), .int .i64 (c.p.burst : Int), .bool c.p.imm, .bool c.p.dig, .pointer (some ⟨x.br, 0, none⟩), .bool c.open_, .bool false, .bool c.asked, .bool false, .bool false, .int .u32 (c.sn : Int), .int .u32 (c.max : Int), .int .u32 ((c.tag + 1 : Nat) : Int), .slice a56 (1) c56, .slice x.aw c.say.length x.cs, .slice x.ad (nD c.done) x.cd] 179 :: RdrP 117 x.br c.r :: LsP a56 c56 (some (⟨c.tag + 1, b, data, [], false⟩ : Ak)) :: OwnB (.slice x.aw c.say.length x.cs) c.say :: DnP x.ad x.cd c.done :: L) w
 have h : On W0 (OwnB (.slice none ([] : List UInt8).length 0) [] :: _) w := h
 have h2 : On W0 (LsP a56 c56 (some (⟨c.tag + 1, b, data, [], false⟩ : Ak)) :: blk bc [.string ⟨c.p.name.toArray⟩, .int .i64 (c.p.maxd : Int), .int .i64 (c.p.burst : Int), .bool c.p.imm, .bool c.p.dig, .pointer (some ⟨x.br, 0, none⟩), .bool c.open_, .bool false, .bool c.asked, .bool false, .bool false, .int .u32 (c.sn : Int), .int .u32 (c.max : Int), .int .u32 ((c.tag + 1 : Nat) : Int), .slice a56 (1) c56, .slice x.aw c.say.length x.cs, .slice x.ad (nD c.done) x.cd] 179 :: RdrP 117 x.br c.r :: OwnB (.slice x.aw c.say.length x.cs) c.say :: DnP x.ad x.cd c.done :: L) w := by
   refine closeLs ⟨ab, b.length, ad_, cd_, none, 0⟩ ⟨hb16, hdl, (show c.tag + 1 < 4294967296 by omega), Nat.zero_le _⟩ ?_
   show On W0 (Own 6 (.slice a56 1 c56) 1 [.int .u32 ((c.tag + 1 : Nat) : Int), .slice ab b.length b.length, .slice ad_ data.length cd_, .slice none 0 0, .bool false, .bool false] :: OwnB (.slice ab b.length b.length) b :: OwnB (.slice ad_ data.length cd_) data :: OwnB (.slice none ([] : List UInt8).length 0) [] :: _) w
   exact h.to
 exact h2.to
theorem cfind1_ok {b3 : Nat} {a : Ak} {y : AkA} (h : On W0 (blk b3 [.int .u32 (a.tag : Int)] 24 :: L) w) : Calls Tryz.prog 177 #[.agg (akCells a y).toArray, .pointer (some ⟨b3, 0, none⟩)] w (Ret fun v w' => v = .bool true ∧ On W0 (blk b3 [.int .u32 (a.tag : Int)] 24 :: L) w') := by
 refine enter func177 rfl ntmps177 rfl (W.sr (WL.e (eff_box (v := .agg (akCells a y).toArray) (l := akCells a y) h rfl rfl) ?_))
 rintro _ w ⟨b2, rfl, h⟩
 refine WL.z (W.sr (WL.c 0 underlying187 rfl sizeOf24 rfl isAgg24 h rfl (WL.l isAgg24 rfl (h.cellB rfl) (WL.v (run_eqlT rfl rfl (by rfl)) ?_))))
 refine WL.z (W.ret (bodyQ.r1 (v := .bool _) results177 rfl ?_))
 exact ⟨rfl, h.to⟩
theorem cindex_ok {al : Option Addr} {cl : Nat} {a : Ak} {y : AkA} {f : FuncId} {caps : Array Value} (h : On W0 L w) (C : Gives L (Cells 6 (.slice al 1 cl) 1 (akCells a y))) (hf : ∀ args w, (callFunc f args).run Tryz.prog w = .ok (.enter f args) w) (hg : ∀ (w : World), On W0 L w → Calls Tryz.prog f (#[.agg (akCells a y).toArray] ++ caps) w (Ret fun v w' => v = .bool true ∧ On W0 L w')) : Calls Tryz.prog 176 #[.slice al 1 cl, .func (.func f) #[] caps] w (Ret fun v w' => v = .int .i64 0 ∧ On W0 L w') := by
 refine enter func176 rfl ntmps176 rfl (W.sr (WL.z (W.seq (W.sr ?_))))
 refine WL.m (WL.v (run_lenSlice underlying177 rfl) (WL.m (WL.nil (W.block ?_))))
 refine W.loop (fun (i : Nat) env w => ∃ j, env = mkE j [(0, .slice al 1 cl), (1, .func (.func f) #[] caps), (7, .int .i64 1), (8, .int .i64 0)] ∧ On W0 L w) (fun i => i) (0) ?_ ?_
 · exact ⟨_, mkE_of ⟨rfl, rfl, rfl, rfl, trivial⟩, h⟩
 clear h
 rintro i env w ⟨j, rfl, h⟩
 have ad_ := (h.readsTo C).addr (by decide)
 obtain ⟨ba, oa, hal⟩ := ad_
 subst hal
 refine W.sr (WL.v (run_lssT rfl rfl (by decide)) (WL.nil (W.seq (W.ct (W.skip (W.seq ?_))))))
 refine W.block (W.sr (WL.m (WL.z (W.sr ?_))))
 refine WL.m (WL.m (WL.m (WL.v (run_indexAddr underlying177 sizeOf187 rfl rfl (by omega) (by omega)) (WL.v (run_loadN isAgg187 sizeOf187 rfl rfl ((h.readsTo C).elem (i := 0) (vs := akCells a y) (by decide) rfl)) (WL.e (eff_callV (xs := [_]) rfl hf (hg _ h)) ?_)))))
 rintro _ w ⟨rfl, h⟩
 refine WL.nil (W.ct (W.sr (WL.m (WL.z (W.ret ?_)))))
 refine bodyQ.r1 (v := .int .i64 _) results176 rfl ?_
 exact ⟨rfl, h⟩
theorem clfind_ok {bc : Nat} {c : Cl} {x : ClA} {a : Ak} {y : AkA} (hl : c.l = some a) (h : On W0 (blk bc (clCells c x) 179 :: Own 6 (.slice x.al 1 x.cl) 1 (akCells a y) :: L) w) : Calls Tryz.prog 154 #[.pointer (some ⟨bc, 0, none⟩), .int .u32 (a.tag : Int)] w (Ret fun v w' => v = .int .i64 0 ∧ On W0 (blk bc (clCells c x) 179 :: Own 6 (.slice x.al 1 x.cl) 1 (akCells a y) :: L) w') := by
 refine enter func154 rfl ntmps154 rfl ?_
 have e1 : nL c.l = 1 := by rw [hl]; rfl
 have h : On W0 (blk bc [.string ⟨c.p.name.toArray⟩, .int .i64 (c.p.maxd : Int), .int .i64 (c.p.burst : Int), .bool c.p.imm, .bool c.p.dig, .pointer (some ⟨x.br, 0, none⟩), .bool c.open_, .bool false, .bool c.asked, .bool false, .bool false, .int .u32 (c.sn : Int), .int .u32 (c.max : Int), .int .u32 (c.tag : Int), .slice x.al (nL c.l) x.cl, .slice x.aw c.say.length x.cs, .slice x.ad (nD c.done) x.cd] 179 :: _) w := h
 rw [e1] at h
 refine W.sr (WL.e (eff_box (v := .int .u32 (a.tag : Int)) (l := [.int .u32 (a.tag : Int)]) h rfl rfl) ?_)
 rintro _ w ⟨b3, rfl, h⟩
 refine WL.z (W.sr (WL.m (WL.n rfl (WL.c 14 underlying179 rfl sizeOf177 rfl isAgg177 h rfl ?_))))
 refine WL.v run_makeFunc (WL.e (eff_call call176 (cindex_ok (al := x.al) (cl := x.cl) (a := a) (y := y) (f := 177) (caps := #[.pointer (some ⟨b3, 0, none⟩)]) h (Gives.ownO (v := .slice x.al 1 x.cl)) call177 (fun w h => cfind1_ok h))) ?_)
 rintro _ w ⟨rfl, h⟩
 refine WL.z (W.ret (bodyQ.r1 (v := .int .i64 _) results154 rfl ?_))
 refine ⟨rfl, ?_⟩
 unfold clCells
 rw [e1]
 exact h.to
theorem cdelete_ok {a : Option Addr} {n c k : Nat} {xs : List Value} (hk : k < n) (hn : n ≤ 1000000) (hx1 : ∀ u ∈ xs, u.oneCell' = true) (h : On W0 (Own 6 (.slice a n c) n (xs) :: L) w) :
   Calls Tryz.prog 157 #[.slice a n c, .int .i64 (k : Int), .int .i64 ((k + 1 : Nat) : Int)] w (Ret fun v w' => ∃ n', n' + 1 = n ∧ v = .slice a n' c ∧
     On W0 (Own 6 (.slice a n' c) n' (xs.take (k * 6) ++ xs.drop ((k + 1) * 6)) :: L) w') := by
 refine enter func157 rfl ntmps157 rfl ?_
 have ob_ := Own.form h
 obtain ⟨a', c', hv, hnc, hcm, hnone⟩ := ob_
 simp only [Value.slice.injEq] at hv
 obtain ⟨rfl, _, rfl⟩ := hv
 have hxl := (Own.openOn h).1
 have hl := maxLen_eq
 refine W.sr (WL.z (W.sr (WL.m (WL.m ?_))))
 refine WL.m (WL.m (WL.v (run_lenSlice underlying177 rfl) (WL.v (run_cutLHM underlying177 sizeOf187 rfl rfl rfl rfl  (by omega) (by omega) (by omega)) (WL.nil (W.seq (W.sr ?_))))))
 refine WL.m (WL.m (WL.v (run_eql rfl rfl) (WL.nil ?_)))
 refine W.condIf rfl (fun c3 => ?_) (fun c3 => ?_)
 ·
  exfalso; omega
 refine W.skip (W.sr (WL.m (WL.v (run_lenSlice underlying177 rfl) (WL.z (W.seq ?_)))))
 refine W.draw Tryz.follows h (fun w h => ?_)
 refine WT.m 0 rfl (WT.m 1 rfl (WT.p 2 rfl (fun w' => (run_cutH underlying177 sizeOf187 rfl rfl  (by omega))) (WT.m 3 rfl (WT.m 4 rfl (WT.p 5 rfl (fun w' => (run_cutL underlying177 sizeOf187 rfl rfl  (by omega))) (WT.e 6 [] rfl (eff_appendFits (n := k) (m := n - (k + 1)) (cap := c) (Own.front h (by omega)) ((h.cells 0 rfl).cut (l := k + 1) (h := n) (m := c) (by omega) (by omega) (by omega) (by omega)) rfl rfl underlying177 sizeOf187 (by omega) (fun u hu => hx1 u (List.mem_of_mem_drop (List.mem_of_mem_take hu)))) ?_))))))
 rintro _ w ⟨rfl, h⟩
 rw [List.take_of_length_le (l := xs.drop ((k + 1) * 6)) (by rw [List.length_drop, hxl, ← Nat.sub_mul]; exact Nat.le_refl _)] at h
 have ob_ : ∃ n', n' = k + (n - (k + 1)) := ⟨_, rfl⟩
 obtain ⟨n', hn'⟩ := ob_
 rw [← hn'] at h
 refine ⟨trivial, ?_⟩
 refine WT.a 7 rfl (WT.dn (W.sr (WL.m (WL.m (WL.v (run_lenSlice underlying177 rfl) (WL.m ?_))))))
 refine WL.v (run_cutLH underlying177 sizeOf187 rfl rfl rfl  (by omega) (by omega)) (WL.e (eff_clearBehind (n := k + (n - (k + 1))) (m := n) (by rw [← hn']; exact h) (by omega) (by omega) rfl underlying177 zeroValue187 rfl (by simp [Value.cells, Value.oneCell'])) ?_)
 rintro _ w h
 refine WL.nil (W.sr (WL.m (WL.z (W.ret (bodyQ.r1 (v := .slice _ _ _) results157 rfl ?_)))))
 exact ⟨_, by omega, rfl, h⟩
end Go.Proofs.YtjfmjbmkkpkppaaGreatDoor
