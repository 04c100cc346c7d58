/-
  Texts of a proof as one.
-/
import Derived.Test.YtjfmjbmkkpkppaaGreatDoorTopBytesFQ6
import Derived.Test.YtjfmjbmkkpkppaaGreatDoorTopBytesFQ4
import Derived.Test.YtjfmjbmkkpkppaaGreatDoorTopBytesFQ2
import Derived.Test.YtjfmjbmkkpkppaaGreatDoorTopBytesFQ3
import Derived.Test.YtjfmjbmkkpkppaaGreatDoorRows
import Derived.Test.YtjfmjbmkkpkppaaGreatDoorTopBytesFQ1
import Derived.ProofKit
import Derived.OpenShut
import Derived.LaidMore
import Derived.Lay
import Derived.Shelf.Vars
set_option linter.unusedVariables false
set_option linter.unusedSimpArgs false
namespace Go.Proofs.YtjfmjbmkkpkppaaGreatDoor
open Go.Proofs.Tryz
open Go Go.Sl Go.Sl.BitM Go.Sl.SpM Go.Sl.RsM Go.Sl.ByM Go.Sl.UnM Go.Sl.TpM
set_option maxHeartbeats 1000000
set_option maxRecDepth 8000
variable {W0 w : World} {L F : List HProp}
theorem nb_anx : ∀ k, k < 16 → (decide (k = 0) || (decide (k = 1) && false) || (decide (k = 2) && false) || (decide (2 ≤ k ∧ k < 10) && true) || (decide (10 ≤ k ∧ k < 14) && true) || (decide (k = 13) && false)) = decide (k = 0 ∨ (2 ≤ k ∧ k < 10) ∨ (10 ≤ k ∧ k < 14)) := by decide
theorem dec_5_ok {bb ob cb : Nat} {bs : List UInt8} (hl : bs.length = 16) (h0 : bs.getD 0 0 = 66) (h1 : bs.getD 1 0 = 0) (hz : ∀ i, i < 16 → ¬ (i = 0 ∨ (2 ≤ i ∧ i < 10) ∨ (10 ≤ i ∧ i < 14)) → bs.getD i 0 = 0) (hat : beV ((bs.drop 2).take 8) ≤ 4611686018427387904) (h : On W0 L w) (C : Gives L (Bytes (.slice (some ⟨bb, ob, none⟩) bs.length cb) bs)) : Calls Tryz.prog 14 #[.slice (some ⟨bb, ob, none⟩) bs.length cb] w (Ret fun v w' => v = .tuple #[.agg #[.int .i64 5, .int .i64 (beV ((bs.drop 2).take 8) : Nat), .int .i64 (beV ((bs.drop 10).take 4) : Nat), .slice none 0 0, .int .u64 0, .int .u64 0, .int .i64 (0 : Nat), .bool false], .agg #[.int .i64 0, .int .i64 0, .int .i64 0, .slice none 0 0, .int .i64 0], .bool true] ∧ On W0 L w') := by
 refine enter func14 rfl ntmps14 rfl ?_
 have hmx := maxLen_eq
 have hbd := (h.readsTo C).bounds
 obtain ⟨hbc, hbm⟩ := hbd
 have q13 := (bs.getD 13 0).toNat_lt
 have q2 := (bs.getD 2 0).toNat_lt
 refine W.sr (WL.e (eff_box (v := .slice (some ⟨bb, ob, none⟩) bs.length cb) (l := [.slice (some ⟨bb, ob, none⟩) bs.length cb]) h rfl rfl) ?_)
 rintro _ w ⟨b1, rfl, h⟩
 refine WL.e (eff_alloc h zeroValue29 rfl) ?_
 rintro _ w ⟨b2, rfl, h⟩
 refine WL.e (eff_alloc h zeroValue44 rfl) ?_
 rintro _ w ⟨b3, rfl, h⟩
 refine WL.z (W.scope (W.seq (W.sr (WL.l isAgg26 rfl (h.cellB rfl) (WL.v (run_lenSlice underlying26 rfl) ?_)))))
 refine WL.v (run_lssF rfl rfl (by omega)) (WL.nil (W.cs (W.sr (WL.v run_makeFunc (WL.e (eff_call call36 (cfind_ok (f := 50) (caps := #[.pointer (some ⟨b1, 0, none⟩)]) (p := fun x => decide (x.op = bs.getD 0 0) && (!x.par || decide (x.sub = bs.getD 1 0))) h call50 (fun x M w tm h => dec1_ok (tm := tm) x (by omega) (Gives.to C) h))) ?_)))))
 rintro _ w ⟨hv, h⟩
 have hfd : codesL.find? (fun x => decide (x.op = bs.getD 0 0) && (!x.par || decide (x.sub = bs.getD 1 0))) = some (⟨5, 66, 0, true, true, false, false, false, false⟩ : Cd) := by simp only [h0, h1]; rfl
 rcases hv with ⟨x, hx, rfl⟩ | ⟨hx, rfl⟩
 rotate_left
 · rw [hfd] at hx; cases hx
 have hx2 := Option.some.inj (hx.symm.trans hfd)
 subst hx2
 refine WL.m (WL.v (run_extract rfl rfl) (WL.v (run_extract rfl rfl) (WL.e (eff_alloc h zeroValue81 rfl) ?_)))
 rintro _ w ⟨b5, rfl, h⟩
 refine WL.e (eff_storeW (vs := [.int .i64 5, .int .u8 66, .int .u8 0, .bool true, .bool true, .bool false, .bool false, .bool false, .bool false]) h sizeOf81 rfl rfl rfl rfl rfl) ?_
 rintro _ w h
 refine WL.z (W.seq (W.sr (WL.m (WL.v (run_not rfl) (WL.nil ?_)))))
 refine W.cs (W.sr (WL.c 0 underlying81 rfl sizeOf3 rfl isAgg3 h rfl (WL.v (run_buildS (pl := qp4) (out := qv3) underlying29 zeroValue29 (fun w => by kernel_rfl) rfl (⟨⟨_, _, rfl, rfl, by decide⟩, trivial⟩) rfl) (WL.e (eff_alloc h zeroValue29 rfl) ?_))))
 rintro _ w ⟨b7, rfl, h⟩
 refine WL.e (eff_storeW (vs := qv3) h sizeOf29 rfl rfl rfl rfl rfl) ?_
 rintro _ w h
 refine WL.nil (W.sr (WL.z (W.seq (W.label (W.seq ?_)))))
 refine W.sr (WL.l isAgg26 rfl (h.cellB rfl) (WL.v (run_cutH (h := 16) underlying26 sizeOf5 rfl rfl (by omega)) (WL.v (run_lenSlice underlying26 rfl) (WL.m (WL.nil (W.block ?_))))))
 refine W.loop (fun (k : Nat) env w => k ≤ 16 ∧ ∃ (j : Env), env = mkE j [(1, .pointer (some ⟨b1, 0, none⟩)), (2, .pointer (some ⟨b2, 0, none⟩)), (3, .pointer (some ⟨b3, 0, none⟩)), (5, .pointer (some ⟨b5, 0, none⟩)), (7, .pointer (some ⟨b7, 0, none⟩)), (8, .bool false), (33, .slice (some ⟨bb, ob, none⟩) 16 cb), (34, .int .i64 16), (35, .int .i64 (k : Int))] ∧ On W0 (blk b7 [.int .i64 5, .int .i64 0, .int .i64 0, .slice none 0 0, .int .u64 0, .int .u64 0, .int .i64 0, .bool false] 29 :: blk b5 [.int .i64 5, .int .u8 66, .int .u8 0, .bool true, .bool true, .bool false, .bool false, .bool false, .bool false] 81 :: blk b3 [.int .i64 0, .int .i64 0, .int .i64 0, .slice none 0 0, .int .i64 0] 44 :: blk b2 [.int .i64 0, .int .i64 0, .int .i64 0, .slice none 0 0, .int .u64 0, .int .u64 0, .int .i64 0, .bool false] 29 :: blk b1 [.slice (some ⟨bb, ob, none⟩) bs.length cb] 26 :: L) w) (fun k => 16 - k) (0) ?_ ?_
 · exact ⟨by decide, _, mkE_of ⟨rfl, rfl, rfl, rfl, rfl, rfl, rfl, rfl, rfl, trivial⟩, h.to⟩
 clear h
 rintro k env w ⟨hk, j, rfl, h⟩
 refine W.sr (WL.v (run_lss rfl rfl) (WL.nil (W.seq ?_)))
 refine W.condIf rfl (fun c20 => ?_) (fun c20 => ?_)
 ·
  refine W.skip (W.seq ?_)
  have hk16 : k < 16 := by omega
  have ob_ : ∃ c, bs[k]? = some c := ⟨bs[k]'(by omega), List.getElem?_eq_getElem _⟩
  obtain ⟨c, hc⟩ := ob_
  refine W.block (W.sr (WL.m (WL.v (run_indexAddr underlying26 sizeOf5 rfl rfl (by omega) (by omega)) (WL.l isAgg5 rfl ((h.readsTo C).elem (i := k) (vs := [.int .u8 (c.toNat : Int)]) (by omega) (bytes_row hc) 0 _ rfl) (WL.a (WL.a ?_))))))
  refine WL.nil (W.seq (W.sr (WL.v (run_loadB (vs := qv2) h isAgg81 sizeOf81 rfl rfl rfl) (WL.m (WL.e (eff_call call51 (named_ok h)) ?_)))))
  rintro _ w ⟨hv, h⟩
  rw [nb_anx k hk16] at hv
  have hcs := Bool.eq_false_or_eq_true (decide (k = 0 ∨ (2 ≤ k ∧ k < 10) ∨ (10 ≤ k ∧ k < 14)))
  rcases hcs with hnm | hnm <;> (rw [hnm] at hv; subst hv)
  ·
   refine WL.nil (W.ct (W.exit (W.region (WL.v (run_incN rfl rfl (by omega)) (WL.m (WL.nil ?_))))))
   exact ⟨k + 1, ⟨by omega, _, mkE_of ⟨rfl, rfl, rfl, rfl, rfl, rfl, rfl, rfl, rfl, trivial⟩, h.to⟩, by show 16 - (k + 1) < 16 - k; omega⟩
  have hno := of_decide_eq_false hnm
  have hcd : c = bs.getD k 0 := by rw [List.getD_eq_getElem?_getD, hc]; rfl
  have hc0 : c = 0 := by rw [hcd]; exact hz k hk16 hno
  subst hc0
  refine WL.nil (W.cs (W.seq (W.sr (WL.m ?_))))
  refine WL.q (run_eql rfl rfl) (fun c44 => ?_) (fun c44 => ?_)
  ·
   refine WL.m (WL.c 6 underlying81 rfl sizeOf4 rfl isAgg4 h rfl (WL.pt (WL.m (WL.s (WL.s (WL.pf ?_))))))
   refine WL.nil (W.cs (W.region (WL.m (WL.m (WL.m (WL.v (run_neqF rfl rfl (by decide)) ?_))))))
   refine WL.pf (WL.z (W.region (WL.v (run_incN rfl rfl (by omega)) (WL.m (WL.nil ?_)))))
   exact ⟨k + 1, ⟨by omega, _, mkE_of ⟨rfl, rfl, rfl, rfl, rfl, rfl, rfl, rfl, rfl, trivial⟩, h.to⟩, by show 16 - (k + 1) < 16 - k; omega⟩
  refine WL.m (WL.s (WL.s (WL.pf (WL.m (WL.s (WL.s (WL.pf ?_)))))))
  refine WL.nil (W.cs (W.region (WL.m (WL.m (WL.m (WL.v (run_neqF rfl rfl (by decide)) ?_))))))
  refine WL.pf (WL.z (W.region (WL.v (run_incN rfl rfl (by omega)) (WL.m (WL.nil ?_)))))
  exact ⟨k + 1, ⟨by omega, _, mkE_of ⟨rfl, rfl, rfl, rfl, rfl, rfl, rfl, rfl, rfl, trivial⟩, h.to⟩, by show 16 - (k + 1) < 16 - k; omega⟩
 refine W.exit (W.seq (W.seq ?_))
 have ek : k = 16 := by omega
 subst ek
 refine W.region (WL.c 3 underlying81 rfl sizeOf4 rfl isAgg4 h rfl (WL.nil (W.ct (W.sr (WL.l isAgg26 rfl (h.cellB rfl) ?_)))))
 refine WL.e (eff_call call52 (bgetE_ok (p := 2) (n := 8) (bs := bs) (by decide) (by decide) h (Gives.to C))) ?_
 rintro _ w ⟨z, ok64, hz64, rfl, h⟩
 have hzz : z = beV ((bs.drop 2).take 8) := hz64 (by omega)
 subst hzz
 refine WL.m (WL.v (run_extract rfl rfl) (WL.v (run_extract rfl rfl) (WL.a (WL.z (W.sr ?_)))))
 refine WL.m (WL.m (WL.m (WL.v (run_gtrF rfl rfl (by omega)) (WL.pf (WL.z (W.region ?_))))))
 refine WL.m (WL.v (run_convInt64 underlying27 underlying3 rfl (by omega) (by omega)) (WL.f 1 underlying29 rfl sizeOf3 rfl rfl (WL.e (eff_store (v := .int .i64 _) h sizeOf3 rfl rfl rfl rfl rfl) ?_)))
 rintro _ w h
 try simp only [Nat.zero_add, Nat.add_zero, List.set_cons_zero, List.set_cons_succ] at h
 refine WL.nil (W.seq (W.block (W.sr (WL.c 4 underlying81 rfl sizeOf4 rfl isAgg4 h rfl (WL.a ?_)))))
 refine WL.nil (W.ct (W.sr (WL.l isAgg26 rfl (h.cellB rfl) (WL.e (eff_call call52 (bgetE_ok (p := 10) (n := 4) (bs := bs) (by decide) (by decide) h (Gives.to C))) ?_))))
 rintro _ w ⟨y, ok80, hz80, rfl, h⟩
 have hyy : y = beV ((bs.drop 10).take 4) := hz80 (by omega)
 subst hyy
 have hyl : beV ((bs.drop 10).take 4) < 4294967296 := be4_lt _
 refine WL.m (WL.v (run_extract rfl rfl) (WL.v (run_extract rfl rfl) (WL.a (WL.z (W.region (WL.m ?_))))))
 refine WL.v (run_convInt64 underlying27 underlying3 rfl (by omega) (by omega)) (WL.f 2 underlying29 rfl sizeOf3 rfl rfl (WL.e (eff_store (v := .int .i64 _) h sizeOf3 rfl rfl rfl rfl rfl) ?_))
 rintro _ w h
 try simp only [Nat.zero_add, Nat.add_zero, List.set_cons_zero, List.set_cons_succ] at h
 refine WL.nil (W.seq (W.sr (WL.m (WL.nil (W.cs ?_)))))
 refine W.sr (WL.v (run_loadB (vs := qv3) h isAgg29 sizeOf29 rfl rfl rfl) (WL.v (run_buildS (pl := qp0) (out := qv0) underlying44 zeroValue44 (fun w => by kernel_rfl) rfl (trivial) rfl) (WL.e (eff_storeW (vs := qv3) h sizeOf29 rfl rfl rfl rfl rfl) ?_)))
 rintro _ w h
 refine WL.e (eff_storeW (vs := qv0) h sizeOf44 rfl rfl rfl rfl rfl) ?_
 rintro _ w h
 refine WL.z (W.ret (bodyQ.rcctB (v3 := .bool true) h results14 isAgg29 sizeOf29 isAgg44 sizeOf44 rfl rfl rfl rfl rfl rfl rfl ?_))
 exact ⟨rfl, h.to⟩
theorem nb_asfx : ∀ k, k < 16 → (decide (k = 0) || (decide (k = 1) && false) || (decide (k = 2) && false) || (decide (2 ≤ k ∧ k < 10) && true) || (decide (10 ≤ k ∧ k < 14) && false) || (decide (k = 13) && true)) = decide (k = 0 ∨ (2 ≤ k ∧ k < 10) ∨ k = 13) := by decide
theorem dec_6_ok {bb ob cb : Nat} {bs : List UInt8} (hl : bs.length = 16) (h0 : bs.getD 0 0 = 137) (h1 : bs.getD 1 0 = 0) (hz : ∀ i, i < 16 → ¬ (i = 0 ∨ (2 ≤ i ∧ i < 10) ∨ i = 13) → bs.getD i 0 = 0) (hat : beV ((bs.drop 2).take 8) ≤ 4611686018427387904) (h : On W0 L w) (C : Gives L (Bytes (.slice (some ⟨bb, ob, none⟩) bs.length cb) bs)) : Calls Tryz.prog 14 #[.slice (some ⟨bb, ob, none⟩) bs.length cb] w (Ret fun v w' => v = .tuple #[.agg #[.int .i64 6, .int .i64 (beV ((bs.drop 2).take 8) : Nat), .int .i64 ((bs.getD 13 0).toNat : Nat), .slice none 0 0, .int .u64 0, .int .u64 0, .int .i64 (0 : Nat), .bool false], .agg #[.int .i64 0, .int .i64 0, .int .i64 0, .slice none 0 0, .int .i64 0], .bool true] ∧ On W0 L w') := by
 refine enter func14 rfl ntmps14 rfl ?_
 have hmx := maxLen_eq
 have hbd := (h.readsTo C).bounds
 obtain ⟨hbc, hbm⟩ := hbd
 have q13 := (bs.getD 13 0).toNat_lt
 have q2 := (bs.getD 2 0).toNat_lt
 refine W.sr (WL.e (eff_box (v := .slice (some ⟨bb, ob, none⟩) bs.length cb) (l := [.slice (some ⟨bb, ob, none⟩) bs.length cb]) h rfl rfl) ?_)
 rintro _ w ⟨b1, rfl, h⟩
 refine WL.e (eff_alloc h zeroValue29 rfl) ?_
 rintro _ w ⟨b2, rfl, h⟩
 refine WL.e (eff_alloc h zeroValue44 rfl) ?_
 rintro _ w ⟨b3, rfl, h⟩
 refine WL.z (W.scope (W.seq (W.sr (WL.l isAgg26 rfl (h.cellB rfl) (WL.v (run_lenSlice underlying26 rfl) ?_)))))
 refine WL.v (run_lssF rfl rfl (by omega)) (WL.nil (W.cs (W.sr (WL.v run_makeFunc (WL.e (eff_call call36 (cfind_ok (f := 50) (caps := #[.pointer (some ⟨b1, 0, none⟩)]) (p := fun x => decide (x.op = bs.getD 0 0) && (!x.par || decide (x.sub = bs.getD 1 0))) h call50 (fun x M w tm h => dec1_ok (tm := tm) x (by omega) (Gives.to C) h))) ?_)))))
 rintro _ w ⟨hv, h⟩
 have hfd : codesL.find? (fun x => decide (x.op = bs.getD 0 0) && (!x.par || decide (x.sub = bs.getD 1 0))) = some (⟨6, 137, 0, true, false, true, true, false, false⟩ : Cd) := by simp only [h0, h1]; rfl
 rcases hv with ⟨x, hx, rfl⟩ | ⟨hx, rfl⟩
 rotate_left
 · rw [hfd] at hx; cases hx
 have hx2 := Option.some.inj (hx.symm.trans hfd)
 subst hx2
 refine WL.m (WL.v (run_extract rfl rfl) (WL.v (run_extract rfl rfl) (WL.e (eff_alloc h zeroValue81 rfl) ?_)))
 rintro _ w ⟨b5, rfl, h⟩
 refine WL.e (eff_storeW (vs := [.int .i64 6, .int .u8 137, .int .u8 0, .bool true, .bool false, .bool true, .bool true, .bool false, .bool false]) h sizeOf81 rfl rfl rfl rfl rfl) ?_
 rintro _ w h
 refine WL.z (W.seq (W.sr (WL.m (WL.v (run_not rfl) (WL.nil ?_)))))
 refine W.cs (W.sr (WL.c 0 underlying81 rfl sizeOf3 rfl isAgg3 h rfl (WL.v (run_buildS (pl := qp4) (out := qv3) underlying29 zeroValue29 (fun w => by kernel_rfl) rfl (⟨⟨_, _, rfl, rfl, by decide⟩, trivial⟩) rfl) (WL.e (eff_alloc h zeroValue29 rfl) ?_))))
 rintro _ w ⟨b7, rfl, h⟩
 refine WL.e (eff_storeW (vs := qv3) h sizeOf29 rfl rfl rfl rfl rfl) ?_
 rintro _ w h
 refine WL.nil (W.sr (WL.z (W.seq (W.label (W.seq ?_)))))
 refine W.sr (WL.l isAgg26 rfl (h.cellB rfl) (WL.v (run_cutH (h := 16) underlying26 sizeOf5 rfl rfl (by omega)) (WL.v (run_lenSlice underlying26 rfl) (WL.m (WL.nil (W.block ?_))))))
 refine W.loop (fun (k : Nat) env w => k ≤ 16 ∧ ∃ (j : Env), env = mkE j [(1, .pointer (some ⟨b1, 0, none⟩)), (2, .pointer (some ⟨b2, 0, none⟩)), (3, .pointer (some ⟨b3, 0, none⟩)), (5, .pointer (some ⟨b5, 0, none⟩)), (7, .pointer (some ⟨b7, 0, none⟩)), (8, .bool false), (33, .slice (some ⟨bb, ob, none⟩) 16 cb), (34, .int .i64 16), (35, .int .i64 (k : Int))] ∧ On W0 (blk b7 [.int .i64 6, .int .i64 0, .int .i64 0, .slice none 0 0, .int .u64 0, .int .u64 0, .int .i64 0, .bool false] 29 :: blk b5 [.int .i64 6, .int .u8 137, .int .u8 0, .bool true, .bool false, .bool true, .bool true, .bool false, .bool false] 81 :: blk b3 [.int .i64 0, .int .i64 0, .int .i64 0, .slice none 0 0, .int .i64 0] 44 :: blk b2 [.int .i64 0, .int .i64 0, .int .i64 0, .slice none 0 0, .int .u64 0, .int .u64 0, .int .i64 0, .bool false] 29 :: blk b1 [.slice (some ⟨bb, ob, none⟩) bs.length cb] 26 :: L) w) (fun k => 16 - k) (0) ?_ ?_
 · exact ⟨by decide, _, mkE_of ⟨rfl, rfl, rfl, rfl, rfl, rfl, rfl, rfl, rfl, trivial⟩, h.to⟩
 clear h
 rintro k env w ⟨hk, j, rfl, h⟩
 refine W.sr (WL.v (run_lss rfl rfl) (WL.nil (W.seq ?_)))
 refine W.condIf rfl (fun c20 => ?_) (fun c20 => ?_)
 ·
  refine W.skip (W.seq ?_)
  have hk16 : k < 16 := by omega
  have ob_ : ∃ c, bs[k]? = some c := ⟨bs[k]'(by omega), List.getElem?_eq_getElem _⟩
  obtain ⟨c, hc⟩ := ob_
  refine W.block (W.sr (WL.m (WL.v (run_indexAddr underlying26 sizeOf5 rfl rfl (by omega) (by omega)) (WL.l isAgg5 rfl ((h.readsTo C).elem (i := k) (vs := [.int .u8 (c.toNat : Int)]) (by omega) (bytes_row hc) 0 _ rfl) (WL.a (WL.a ?_))))))
  refine WL.nil (W.seq (W.sr (WL.v (run_loadB (vs := qv2) h isAgg81 sizeOf81 rfl rfl rfl) (WL.m (WL.e (eff_call call51 (named_ok h)) ?_)))))
  rintro _ w ⟨hv, h⟩
  rw [nb_asfx k hk16] at hv
  have hcs := Bool.eq_false_or_eq_true (decide (k = 0 ∨ (2 ≤ k ∧ k < 10) ∨ k = 13))
  rcases hcs with hnm | hnm <;> (rw [hnm] at hv; subst hv)
  ·
   refine WL.nil (W.ct (W.exit (W.region (WL.v (run_incN rfl rfl (by omega)) (WL.m (WL.nil ?_))))))
   exact ⟨k + 1, ⟨by omega, _, mkE_of ⟨rfl, rfl, rfl, rfl, rfl, rfl, rfl, rfl, rfl, trivial⟩, h.to⟩, by show 16 - (k + 1) < 16 - k; omega⟩
  have hno := of_decide_eq_false hnm
  have hcd : c = bs.getD k 0 := by rw [List.getD_eq_getElem?_getD, hc]; rfl
  have hc0 : c = 0 := by rw [hcd]; exact hz k hk16 hno
  subst hc0
  refine WL.nil (W.cs (W.seq (W.sr (WL.m ?_))))
  refine WL.q (run_eql rfl rfl) (fun c44 => ?_) (fun c44 => ?_)
  ·
   refine WL.m (WL.c 6 underlying81 rfl sizeOf4 rfl isAgg4 h rfl (WL.pt (WL.m (WL.m (WL.v (run_eqlF rfl rfl (by decide)) (WL.pt ?_))))))
   refine WL.nil (W.cs (W.region (WL.m (WL.m (WL.m (WL.v (run_neqF rfl rfl (by decide)) ?_))))))
   refine WL.pf (WL.z (W.region (WL.v (run_incN rfl rfl (by omega)) (WL.m (WL.nil ?_)))))
   exact ⟨k + 1, ⟨by omega, _, mkE_of ⟨rfl, rfl, rfl, rfl, rfl, rfl, rfl, rfl, rfl, trivial⟩, h.to⟩, by show 16 - (k + 1) < 16 - k; omega⟩
  refine WL.m (WL.s (WL.s (WL.pf (WL.m (WL.s (WL.s (WL.pf ?_)))))))
  refine WL.nil (W.cs (W.region (WL.m (WL.m (WL.m (WL.v (run_neqF rfl rfl (by decide)) ?_))))))
  refine WL.pf (WL.z (W.region (WL.v (run_incN rfl rfl (by omega)) (WL.m (WL.nil ?_)))))
  exact ⟨k + 1, ⟨by omega, _, mkE_of ⟨rfl, rfl, rfl, rfl, rfl, rfl, rfl, rfl, rfl, trivial⟩, h.to⟩, by show 16 - (k + 1) < 16 - k; omega⟩
 refine W.exit (W.seq (W.seq ?_))
 have ek : k = 16 := by omega
 subst ek
 refine W.region (WL.c 3 underlying81 rfl sizeOf4 rfl isAgg4 h rfl (WL.nil (W.ct (W.sr (WL.l isAgg26 rfl (h.cellB rfl) ?_)))))
 refine WL.e (eff_call call52 (bgetE_ok (p := 2) (n := 8) (bs := bs) (by decide) (by decide) h (Gives.to C))) ?_
 rintro _ w ⟨z, ok64, hz64, rfl, h⟩
 have hzz : z = beV ((bs.drop 2).take 8) := hz64 (by omega)
 subst hzz
 refine WL.m (WL.v (run_extract rfl rfl) (WL.v (run_extract rfl rfl) (WL.a (WL.z (W.sr ?_)))))
 refine WL.m (WL.m (WL.m (WL.v (run_gtrF rfl rfl (by omega)) (WL.pf (WL.z (W.region ?_))))))
 refine WL.m (WL.v (run_convInt64 underlying27 underlying3 rfl (by omega) (by omega)) (WL.f 1 underlying29 rfl sizeOf3 rfl rfl (WL.e (eff_store (v := .int .i64 _) h sizeOf3 rfl rfl rfl rfl rfl) ?_)))
 rintro _ w h
 try simp only [Nat.zero_add, Nat.add_zero, List.set_cons_zero, List.set_cons_succ] at h
 refine WL.nil (W.seq (W.block (W.sr (WL.c 4 underlying81 rfl sizeOf4 rfl isAgg4 h rfl (WL.a ?_)))))
 refine WL.nil (W.cf (W.sr (WL.c 5 underlying81 rfl sizeOf4 rfl isAgg4 h rfl (WL.z ?_))))
 refine W.ct (W.region (WL.l isAgg26 rfl (h.cellB rfl) (WL.v (run_indexAddr underlying26 sizeOf5 rfl rfl (by omega) (by omega)) (WL.l isAgg5 rfl ((h.readsTo C).elem (i := 13) (vs := [.int .u8 ((bs.getD 13 0).toNat : Int)]) (by omega) (getD_row (by omega)) 0 _ rfl) (WL.v (run_convInt64 underlying5 underlying3 rfl (by omega) (by omega)) (WL.f 2 underlying29 rfl sizeOf3 rfl rfl (WL.e (eff_store (v := .int .i64 _) h sizeOf3 rfl rfl rfl rfl rfl) ?_)))))))
 rintro _ w h
 try simp only [Nat.zero_add, Nat.add_zero, List.set_cons_zero, List.set_cons_succ] at h
 refine WL.nil (W.seq (W.sr (WL.m (WL.nil (W.cs ?_)))))
 refine W.sr (WL.v (run_loadB (vs := qv3) h isAgg29 sizeOf29 rfl rfl rfl) (WL.v (run_buildS (pl := qp0) (out := qv0) underlying44 zeroValue44 (fun w => by kernel_rfl) rfl (trivial) rfl) (WL.e (eff_storeW (vs := qv3) h sizeOf29 rfl rfl rfl rfl rfl) ?_)))
 rintro _ w h
 refine WL.e (eff_storeW (vs := qv0) h sizeOf44 rfl rfl rfl rfl rfl) ?_
 rintro _ w h
 refine WL.z (W.ret (bodyQ.rcctB (v3 := .bool true) h results14 isAgg29 sizeOf29 isAgg44 sizeOf44 rfl rfl rfl rfl rfl rfl rfl ?_))
 exact ⟨rfl, h.to⟩
theorem nb_px : ∀ k, k < 16 → (decide (k = 0) || (decide (k = 1) && true) || (decide (k = 2) && false) || (decide (2 ≤ k ∧ k < 10) && false) || (decide (10 ≤ k ∧ k < 14) && false) || (decide (k = 13) && false)) = decide (k = 0 ∨ k = 1) := by decide
theorem dec_11_ok {bb ob cb : Nat} {bs : List UInt8} (hl : bs.length = 16) (h0 : bs.getD 0 0 = 95) (h1 : bs.getD 1 0 = 6) (hz : ∀ i, i < 16 → ¬ (i = 0 ∨ i = 1) → bs.getD i 0 = 0) (hat : 0 ≤ 4611686018427387904) (h : On W0 L w) (C : Gives L (Bytes (.slice (some ⟨bb, ob, none⟩) bs.length cb) bs)) : Calls Tryz.prog 14 #[.slice (some ⟨bb, ob, none⟩) bs.length cb] w (Ret fun v w' => v = .tuple #[.agg #[.int .i64 11, .int .i64 (0 : Nat), .int .i64 (0 : Nat), .slice none 0 0, .int .u64 0, .int .u64 0, .int .i64 (0 : Nat), .bool false], .agg #[.int .i64 0, .int .i64 0, .int .i64 0, .slice none 0 0, .int .i64 0], .bool true] ∧ On W0 L w') := by
 refine enter func14 rfl ntmps14 rfl ?_
 have hmx := maxLen_eq
 have hbd := (h.readsTo C).bounds
 obtain ⟨hbc, hbm⟩ := hbd
 have q13 := (bs.getD 13 0).toNat_lt
 have q2 := (bs.getD 2 0).toNat_lt
 refine W.sr (WL.e (eff_box (v := .slice (some ⟨bb, ob, none⟩) bs.length cb) (l := [.slice (some ⟨bb, ob, none⟩) bs.length cb]) h rfl rfl) ?_)
 rintro _ w ⟨b1, rfl, h⟩
 refine WL.e (eff_alloc h zeroValue29 rfl) ?_
 rintro _ w ⟨b2, rfl, h⟩
 refine WL.e (eff_alloc h zeroValue44 rfl) ?_
 rintro _ w ⟨b3, rfl, h⟩
 refine WL.z (W.scope (W.seq (W.sr (WL.l isAgg26 rfl (h.cellB rfl) (WL.v (run_lenSlice underlying26 rfl) ?_)))))
 refine WL.v (run_lssF rfl rfl (by omega)) (WL.nil (W.cs (W.sr (WL.v run_makeFunc (WL.e (eff_call call36 (cfind_ok (f := 50) (caps := #[.pointer (some ⟨b1, 0, none⟩)]) (p := fun x => decide (x.op = bs.getD 0 0) && (!x.par || decide (x.sub = bs.getD 1 0))) h call50 (fun x M w tm h => dec1_ok (tm := tm) x (by omega) (Gives.to C) h))) ?_)))))
 rintro _ w ⟨hv, h⟩
 have hfd : codesL.find? (fun x => decide (x.op = bs.getD 0 0) && (!x.par || decide (x.sub = bs.getD 1 0))) = some (⟨11, 95, 6, false, false, false, false, false, true⟩ : Cd) := by simp only [h0, h1]; rfl
 rcases hv with ⟨x, hx, rfl⟩ | ⟨hx, rfl⟩
 rotate_left
 · rw [hfd] at hx; cases hx
 have hx2 := Option.some.inj (hx.symm.trans hfd)
 subst hx2
 refine WL.m (WL.v (run_extract rfl rfl) (WL.v (run_extract rfl rfl) (WL.e (eff_alloc h zeroValue81 rfl) ?_)))
 rintro _ w ⟨b5, rfl, h⟩
 refine WL.e (eff_storeW (vs := [.int .i64 11, .int .u8 95, .int .u8 6, .bool false, .bool false, .bool false, .bool false, .bool false, .bool true]) h sizeOf81 rfl rfl rfl rfl rfl) ?_
 rintro _ w h
 refine WL.z (W.seq (W.sr (WL.m (WL.v (run_not rfl) (WL.nil ?_)))))
 refine W.cs (W.sr (WL.c 0 underlying81 rfl sizeOf3 rfl isAgg3 h rfl (WL.v (run_buildS (pl := qp4) (out := qv3) underlying29 zeroValue29 (fun w => by kernel_rfl) rfl (⟨⟨_, _, rfl, rfl, by decide⟩, trivial⟩) rfl) (WL.e (eff_alloc h zeroValue29 rfl) ?_))))
 rintro _ w ⟨b7, rfl, h⟩
 refine WL.e (eff_storeW (vs := qv3) h sizeOf29 rfl rfl rfl rfl rfl) ?_
 rintro _ w h
 refine WL.nil (W.sr (WL.z (W.seq (W.label (W.seq ?_)))))
 refine W.sr (WL.l isAgg26 rfl (h.cellB rfl) (WL.v (run_cutH (h := 16) underlying26 sizeOf5 rfl rfl (by omega)) (WL.v (run_lenSlice underlying26 rfl) (WL.m (WL.nil (W.block ?_))))))
 refine W.loop (fun (k : Nat) env w => k ≤ 16 ∧ ∃ (j : Env), env = mkE j [(1, .pointer (some ⟨b1, 0, none⟩)), (2, .pointer (some ⟨b2, 0, none⟩)), (3, .pointer (some ⟨b3, 0, none⟩)), (5, .pointer (some ⟨b5, 0, none⟩)), (7, .pointer (some ⟨b7, 0, none⟩)), (8, .bool false), (33, .slice (some ⟨bb, ob, none⟩) 16 cb), (34, .int .i64 16), (35, .int .i64 (k : Int))] ∧ On W0 (blk b7 [.int .i64 11, .int .i64 0, .int .i64 0, .slice none 0 0, .int .u64 0, .int .u64 0, .int .i64 0, .bool false] 29 :: blk b5 [.int .i64 11, .int .u8 95, .int .u8 6, .bool false, .bool false, .bool false, .bool false, .bool false, .bool true] 81 :: blk b3 [.int .i64 0, .int .i64 0, .int .i64 0, .slice none 0 0, .int .i64 0] 44 :: blk b2 [.int .i64 0, .int .i64 0, .int .i64 0, .slice none 0 0, .int .u64 0, .int .u64 0, .int .i64 0, .bool false] 29 :: blk b1 [.slice (some ⟨bb, ob, none⟩) bs.length cb] 26 :: L) w) (fun k => 16 - k) (0) ?_ ?_
 · exact ⟨by decide, _, mkE_of ⟨rfl, rfl, rfl, rfl, rfl, rfl, rfl, rfl, rfl, trivial⟩, h.to⟩
 clear h
 rintro k env w ⟨hk, j, rfl, h⟩
 refine W.sr (WL.v (run_lss rfl rfl) (WL.nil (W.seq ?_)))
 refine W.condIf rfl (fun c20 => ?_) (fun c20 => ?_)
 ·
  refine W.skip (W.seq ?_)
  have hk16 : k < 16 := by omega
  have ob_ : ∃ c, bs[k]? = some c := ⟨bs[k]'(by omega), List.getElem?_eq_getElem _⟩
  obtain ⟨c, hc⟩ := ob_
  refine W.block (W.sr (WL.m (WL.v (run_indexAddr underlying26 sizeOf5 rfl rfl (by omega) (by omega)) (WL.l isAgg5 rfl ((h.readsTo C).elem (i := k) (vs := [.int .u8 (c.toNat : Int)]) (by omega) (bytes_row hc) 0 _ rfl) (WL.a (WL.a ?_))))))
  refine WL.nil (W.seq (W.sr (WL.v (run_loadB (vs := qv2) h isAgg81 sizeOf81 rfl rfl rfl) (WL.m (WL.e (eff_call call51 (named_ok h)) ?_)))))
  rintro _ w ⟨hv, h⟩
  rw [nb_px k hk16] at hv
  have hcs := Bool.eq_false_or_eq_true (decide (k = 0 ∨ k = 1))
  rcases hcs with hnm | hnm <;> (rw [hnm] at hv; subst hv)
  ·
   refine WL.nil (W.ct (W.exit (W.region (WL.v (run_incN rfl rfl (by omega)) (WL.m (WL.nil ?_))))))
   exact ⟨k + 1, ⟨by omega, _, mkE_of ⟨rfl, rfl, rfl, rfl, rfl, rfl, rfl, rfl, rfl, trivial⟩, h.to⟩, by show 16 - (k + 1) < 16 - k; omega⟩
  have hno := of_decide_eq_false hnm
  have hcd : c = bs.getD k 0 := by rw [List.getD_eq_getElem?_getD, hc]; rfl
  have hc0 : c = 0 := by rw [hcd]; exact hz k hk16 hno
  subst hc0
  refine WL.nil (W.cs (W.seq (W.sr (WL.m (WL.v (run_eqlF rfl rfl (by omega)) ?_)))))
  refine WL.m (WL.s (WL.s (WL.pf (WL.m (WL.s (WL.s (WL.pf ?_)))))))
  refine WL.nil (W.cs (W.region (WL.m (WL.m (WL.m (WL.v (run_neqF rfl rfl (by decide)) ?_))))))
  refine WL.pf (WL.z (W.region (WL.v (run_incN rfl rfl (by omega)) (WL.m (WL.nil ?_)))))
  exact ⟨k + 1, ⟨by omega, _, mkE_of ⟨rfl, rfl, rfl, rfl, rfl, rfl, rfl, rfl, rfl, trivial⟩, h.to⟩, by show 16 - (k + 1) < 16 - k; omega⟩
 refine W.exit (W.seq (W.seq ?_))
 have ek : k = 16 := by omega
 subst ek
 refine W.region (WL.c 3 underlying81 rfl sizeOf4 rfl isAgg4 h rfl (WL.nil (W.cs (W.seq (W.block ?_)))))
 refine W.sr (WL.c 4 underlying81 rfl sizeOf4 rfl isAgg4 h rfl (WL.z (W.cf (W.seq ?_))))
 refine W.region (WL.c 5 underlying81 rfl sizeOf4 rfl isAgg4 h rfl (WL.z (W.cf (W.sr ?_))))
 refine WL.c 7 underlying81 rfl sizeOf4 rfl isAgg4 h rfl (WL.z (W.cs (W.seq (W.seq ?_))))
 refine W.region (WL.m (WL.nil (W.cs (W.sr (WL.v (run_loadB (vs := qv3) h isAgg29 sizeOf29 rfl rfl rfl) ?_)))))
 refine WL.v (run_buildS (pl := qp0) (out := qv0) underlying44 zeroValue44 (fun w => by kernel_rfl) rfl (trivial) rfl) (WL.e (eff_storeW (vs := qv3) h sizeOf29 rfl rfl rfl rfl rfl) ?_)
 rintro _ w h
 refine WL.e (eff_storeW (vs := qv0) h sizeOf44 rfl rfl rfl rfl rfl) ?_
 rintro _ w h
 refine WL.z (W.ret (bodyQ.rcctB (v3 := .bool true) h results14 isAgg29 sizeOf29 isAgg44 sizeOf44 rfl rfl rfl rfl rfl rfl rfl ?_))
 exact ⟨rfl, h.to⟩
theorem nb_tpx : ∀ k, k < 16 → (decide (k = 0) || (decide (k = 1) && true) || (decide (k = 2) && true) || (decide (2 ≤ k ∧ k < 10) && false) || (decide (10 ≤ k ∧ k < 14) && false) || (decide (k = 13) && false)) = decide (k = 0 ∨ k = 1 ∨ k = 2) := by decide
theorem dec_12_ok {bb ob cb : Nat} {bs : List UInt8} (hl : bs.length = 16) (h0 : bs.getD 0 0 = 95) (h1 : bs.getD 1 0 = 1) (hz : ∀ i, i < 16 → ¬ (i = 0 ∨ i = 1 ∨ i = 2) → bs.getD i 0 = 0) (hat : 0 ≤ 4611686018427387904) (h : On W0 L w) (C : Gives L (Bytes (.slice (some ⟨bb, ob, none⟩) bs.length cb) bs)) : Calls Tryz.prog 14 #[.slice (some ⟨bb, ob, none⟩) bs.length cb] w (Ret fun v w' => v = .tuple #[.agg #[.int .i64 12, .int .i64 (0 : Nat), .int .i64 (0 : Nat), .slice none 0 0, .int .u64 0, .int .u64 0, .int .i64 ((bs.getD 2 0).toNat : Nat), .bool false], .agg #[.int .i64 0, .int .i64 0, .int .i64 0, .slice none 0 0, .int .i64 0], .bool true] ∧ On W0 L w') := by
 refine enter func14 rfl ntmps14 rfl ?_
 have hmx := maxLen_eq
 have hbd := (h.readsTo C).bounds
 obtain ⟨hbc, hbm⟩ := hbd
 have q13 := (bs.getD 13 0).toNat_lt
 have q2 := (bs.getD 2 0).toNat_lt
 refine W.sr (WL.e (eff_box (v := .slice (some ⟨bb, ob, none⟩) bs.length cb) (l := [.slice (some ⟨bb, ob, none⟩) bs.length cb]) h rfl rfl) ?_)
 rintro _ w ⟨b1, rfl, h⟩
 refine WL.e (eff_alloc h zeroValue29 rfl) ?_
 rintro _ w ⟨b2, rfl, h⟩
 refine WL.e (eff_alloc h zeroValue44 rfl) ?_
 rintro _ w ⟨b3, rfl, h⟩
 refine WL.z (W.scope (W.seq (W.sr (WL.l isAgg26 rfl (h.cellB rfl) (WL.v (run_lenSlice underlying26 rfl) ?_)))))
 refine WL.v (run_lssF rfl rfl (by omega)) (WL.nil (W.cs (W.sr (WL.v run_makeFunc (WL.e (eff_call call36 (cfind_ok (f := 50) (caps := #[.pointer (some ⟨b1, 0, none⟩)]) (p := fun x => decide (x.op = bs.getD 0 0) && (!x.par || decide (x.sub = bs.getD 1 0))) h call50 (fun x M w tm h => dec1_ok (tm := tm) x (by omega) (Gives.to C) h))) ?_)))))
 rintro _ w ⟨hv, h⟩
 have hfd : codesL.find? (fun x => decide (x.op = bs.getD 0 0) && (!x.par || decide (x.sub = bs.getD 1 0))) = some (⟨12, 95, 1, false, false, false, false, true, true⟩ : Cd) := by simp only [h0, h1]; rfl
 rcases hv with ⟨x, hx, rfl⟩ | ⟨hx, rfl⟩
 rotate_left
 · rw [hfd] at hx; cases hx
 have hx2 := Option.some.inj (hx.symm.trans hfd)
 subst hx2
 refine WL.m (WL.v (run_extract rfl rfl) (WL.v (run_extract rfl rfl) (WL.e (eff_alloc h zeroValue81 rfl) ?_)))
 rintro _ w ⟨b5, rfl, h⟩
 refine WL.e (eff_storeW (vs := [.int .i64 12, .int .u8 95, .int .u8 1, .bool false, .bool false, .bool false, .bool false, .bool true, .bool true]) h sizeOf81 rfl rfl rfl rfl rfl) ?_
 rintro _ w h
 refine WL.z (W.seq (W.sr (WL.m (WL.v (run_not rfl) (WL.nil ?_)))))
 refine W.cs (W.sr (WL.c 0 underlying81 rfl sizeOf3 rfl isAgg3 h rfl (WL.v (run_buildS (pl := qp4) (out := qv3) underlying29 zeroValue29 (fun w => by kernel_rfl) rfl (⟨⟨_, _, rfl, rfl, by decide⟩, trivial⟩) rfl) (WL.e (eff_alloc h zeroValue29 rfl) ?_))))
 rintro _ w ⟨b7, rfl, h⟩
 refine WL.e (eff_storeW (vs := qv3) h sizeOf29 rfl rfl rfl rfl rfl) ?_
 rintro _ w h
 refine WL.nil (W.sr (WL.z (W.seq (W.label (W.seq ?_)))))
 refine W.sr (WL.l isAgg26 rfl (h.cellB rfl) (WL.v (run_cutH (h := 16) underlying26 sizeOf5 rfl rfl (by omega)) (WL.v (run_lenSlice underlying26 rfl) (WL.m (WL.nil (W.block ?_))))))
 refine W.loop (fun (k : Nat) env w => k ≤ 16 ∧ ∃ (j : Env), env = mkE j [(1, .pointer (some ⟨b1, 0, none⟩)), (2, .pointer (some ⟨b2, 0, none⟩)), (3, .pointer (some ⟨b3, 0, none⟩)), (5, .pointer (some ⟨b5, 0, none⟩)), (7, .pointer (some ⟨b7, 0, none⟩)), (8, .bool false), (33, .slice (some ⟨bb, ob, none⟩) 16 cb), (34, .int .i64 16), (35, .int .i64 (k : Int))] ∧ On W0 (blk b7 [.int .i64 12, .int .i64 0, .int .i64 0, .slice none 0 0, .int .u64 0, .int .u64 0, .int .i64 0, .bool false] 29 :: blk b5 [.int .i64 12, .int .u8 95, .int .u8 1, .bool false, .bool false, .bool false, .bool false, .bool true, .bool true] 81 :: blk b3 [.int .i64 0, .int .i64 0, .int .i64 0, .slice none 0 0, .int .i64 0] 44 :: blk b2 [.int .i64 0, .int .i64 0, .int .i64 0, .slice none 0 0, .int .u64 0, .int .u64 0, .int .i64 0, .bool false] 29 :: blk b1 [.slice (some ⟨bb, ob, none⟩) bs.length cb] 26 :: L) w) (fun k => 16 - k) (0) ?_ ?_
 · exact ⟨by decide, _, mkE_of ⟨rfl, rfl, rfl, rfl, rfl, rfl, rfl, rfl, rfl, trivial⟩, h.to⟩
 clear h
 rintro k env w ⟨hk, j, rfl, h⟩
 refine W.sr (WL.v (run_lss rfl rfl) (WL.nil (W.seq ?_)))
 refine W.condIf rfl (fun c20 => ?_) (fun c20 => ?_)
 ·
  refine W.skip (W.seq ?_)
  have hk16 : k < 16 := by omega
  have ob_ : ∃ c, bs[k]? = some c := ⟨bs[k]'(by omega), List.getElem?_eq_getElem _⟩
  obtain ⟨c, hc⟩ := ob_
  refine W.block (W.sr (WL.m (WL.v (run_indexAddr underlying26 sizeOf5 rfl rfl (by omega) (by omega)) (WL.l isAgg5 rfl ((h.readsTo C).elem (i := k) (vs := [.int .u8 (c.toNat : Int)]) (by omega) (bytes_row hc) 0 _ rfl) (WL.a (WL.a ?_))))))
  refine WL.nil (W.seq (W.sr (WL.v (run_loadB (vs := qv2) h isAgg81 sizeOf81 rfl rfl rfl) (WL.m (WL.e (eff_call call51 (named_ok h)) ?_)))))
  rintro _ w ⟨hv, h⟩
  rw [nb_tpx k hk16] at hv
  have hcs := Bool.eq_false_or_eq_true (decide (k = 0 ∨ k = 1 ∨ k = 2))
  rcases hcs with hnm | hnm <;> (rw [hnm] at hv; subst hv)
  ·
   refine WL.nil (W.ct (W.exit (W.region (WL.v (run_incN rfl rfl (by omega)) (WL.m (WL.nil ?_))))))
   exact ⟨k + 1, ⟨by omega, _, mkE_of ⟨rfl, rfl, rfl, rfl, rfl, rfl, rfl, rfl, rfl, trivial⟩, h.to⟩, by show 16 - (k + 1) < 16 - k; omega⟩
  have hno := of_decide_eq_false hnm
  have hcd : c = bs.getD k 0 := by rw [List.getD_eq_getElem?_getD, hc]; rfl
  have hc0 : c = 0 := by rw [hcd]; exact hz k hk16 hno
  subst hc0
  refine WL.nil (W.cs (W.seq (W.sr (WL.m (WL.v (run_eqlF rfl rfl (by omega)) ?_)))))
  refine WL.m (WL.s (WL.s (WL.pf (WL.m (WL.s (WL.s (WL.pf ?_)))))))
  refine WL.nil (W.cs (W.region (WL.m (WL.m (WL.m (WL.v (run_neqF rfl rfl (by decide)) ?_))))))
  refine WL.pf (WL.z (W.region (WL.v (run_incN rfl rfl (by omega)) (WL.m (WL.nil ?_)))))
  exact ⟨k + 1, ⟨by omega, _, mkE_of ⟨rfl, rfl, rfl, rfl, rfl, rfl, rfl, rfl, rfl, trivial⟩, h.to⟩, by show 16 - (k + 1) < 16 - k; omega⟩
 refine W.exit (W.seq (W.seq ?_))
 have ek : k = 16 := by omega
 subst ek
 refine W.region (WL.c 3 underlying81 rfl sizeOf4 rfl isAgg4 h rfl (WL.nil (W.cs (W.seq (W.block ?_)))))
 refine W.sr (WL.c 4 underlying81 rfl sizeOf4 rfl isAgg4 h rfl (WL.z (W.cf (W.seq ?_))))
 refine W.region (WL.c 5 underlying81 rfl sizeOf4 rfl isAgg4 h rfl (WL.z (W.cf (W.sr ?_))))
 refine WL.c 7 underlying81 rfl sizeOf4 rfl isAgg4 h rfl (WL.z (W.ct (W.region (WL.l isAgg26 rfl (h.cellB rfl) (WL.v (run_indexAddr underlying26 sizeOf5 rfl rfl (by omega) (by omega)) ?_)))))
 refine WL.l isAgg5 rfl ((h.readsTo C).elem (i := 2) (vs := [.int .u8 ((bs.getD 2 0).toNat : Int)]) (by omega) (getD_row (by omega)) 0 _ rfl) (WL.v (run_convInt64 underlying5 underlying3 rfl (by omega) (by omega)) (WL.f 6 underlying29 rfl sizeOf3 rfl rfl (WL.e (eff_store (v := .int .i64 _) h sizeOf3 rfl rfl rfl rfl rfl) ?_)))
 rintro _ w h
 try simp only [Nat.zero_add, Nat.add_zero, List.set_cons_zero, List.set_cons_succ] at h
 refine WL.nil (W.seq (W.sr (WL.m (WL.nil (W.cs ?_)))))
 refine W.sr (WL.v (run_loadB (vs := qv3) h isAgg29 sizeOf29 rfl rfl rfl) (WL.v (run_buildS (pl := qp0) (out := qv0) underlying44 zeroValue44 (fun w => by kernel_rfl) rfl (trivial) rfl) (WL.e (eff_storeW (vs := qv3) h sizeOf29 rfl rfl rfl rfl rfl) ?_)))
 rintro _ w h
 refine WL.e (eff_storeW (vs := qv0) h sizeOf44 rfl rfl rfl rfl rfl) ?_
 rintro _ w h
 refine WL.z (W.ret (bodyQ.rcctB (v3 := .bool true) h results14 isAgg29 sizeOf29 isAgg44 sizeOf44 rfl rfl rfl rfl rfl rfl rfl ?_))
 exact ⟨rfl, h.to⟩
theorem dec_16_ok {bb ob cb : Nat} {bs : List UInt8} (hl : bs.length = 16) (h0 : bs.getD 0 0 = 94) (h1 : bs.getD 1 0 = 0) (hz : ∀ i, i < 16 → ¬ (i = 0 ∨ i = 1) → bs.getD i 0 = 0) (hat : 0 ≤ 4611686018427387904) (h : On W0 L w) (C : Gives L (Bytes (.slice (some ⟨bb, ob, none⟩) bs.length cb) bs)) : Calls Tryz.prog 14 #[.slice (some ⟨bb, ob, none⟩) bs.length cb] w (Ret fun v w' => v = .tuple #[.agg #[.int .i64 16, .int .i64 (0 : Nat), .int .i64 (0 : Nat), .slice none 0 0, .int .u64 0, .int .u64 0, .int .i64 (0 : Nat), .bool false], .agg #[.int .i64 0, .int .i64 0, .int .i64 0, .slice none 0 0, .int .i64 0], .bool true] ∧ On W0 L w') := by
 refine enter func14 rfl ntmps14 rfl ?_
 have hmx := maxLen_eq
 have hbd := (h.readsTo C).bounds
 obtain ⟨hbc, hbm⟩ := hbd
 have q13 := (bs.getD 13 0).toNat_lt
 have q2 := (bs.getD 2 0).toNat_lt
 refine W.sr (WL.e (eff_box (v := .slice (some ⟨bb, ob, none⟩) bs.length cb) (l := [.slice (some ⟨bb, ob, none⟩) bs.length cb]) h rfl rfl) ?_)
 rintro _ w ⟨b1, rfl, h⟩
 refine WL.e (eff_alloc h zeroValue29 rfl) ?_
 rintro _ w ⟨b2, rfl, h⟩
 refine WL.e (eff_alloc h zeroValue44 rfl) ?_
 rintro _ w ⟨b3, rfl, h⟩
 refine WL.z (W.scope (W.seq (W.sr (WL.l isAgg26 rfl (h.cellB rfl) (WL.v (run_lenSlice underlying26 rfl) ?_)))))
 refine WL.v (run_lssF rfl rfl (by omega)) (WL.nil (W.cs (W.sr (WL.v run_makeFunc (WL.e (eff_call call36 (cfind_ok (f := 50) (caps := #[.pointer (some ⟨b1, 0, none⟩)]) (p := fun x => decide (x.op = bs.getD 0 0) && (!x.par || decide (x.sub = bs.getD 1 0))) h call50 (fun x M w tm h => dec1_ok (tm := tm) x (by omega) (Gives.to C) h))) ?_)))))
 rintro _ w ⟨hv, h⟩
 have hfd : codesL.find? (fun x => decide (x.op = bs.getD 0 0) && (!x.par || decide (x.sub = bs.getD 1 0))) = some (⟨16, 94, 0, false, false, false, false, false, true⟩ : Cd) := by simp only [h0, h1]; rfl
 rcases hv with ⟨x, hx, rfl⟩ | ⟨hx, rfl⟩
 rotate_left
 · rw [hfd] at hx; cases hx
 have hx2 := Option.some.inj (hx.symm.trans hfd)
 subst hx2
 refine WL.m (WL.v (run_extract rfl rfl) (WL.v (run_extract rfl rfl) (WL.e (eff_alloc h zeroValue81 rfl) ?_)))
 rintro _ w ⟨b5, rfl, h⟩
 refine WL.e (eff_storeW (vs := [.int .i64 16, .int .u8 94, .int .u8 0, .bool false, .bool false, .bool false, .bool false, .bool false, .bool true]) h sizeOf81 rfl rfl rfl rfl rfl) ?_
 rintro _ w h
 refine WL.z (W.seq (W.sr (WL.m (WL.v (run_not rfl) (WL.nil ?_)))))
 refine W.cs (W.sr (WL.c 0 underlying81 rfl sizeOf3 rfl isAgg3 h rfl (WL.v (run_buildS (pl := qp4) (out := qv3) underlying29 zeroValue29 (fun w => by kernel_rfl) rfl (⟨⟨_, _, rfl, rfl, by decide⟩, trivial⟩) rfl) (WL.e (eff_alloc h zeroValue29 rfl) ?_))))
 rintro _ w ⟨b7, rfl, h⟩
 refine WL.e (eff_storeW (vs := qv3) h sizeOf29 rfl rfl rfl rfl rfl) ?_
 rintro _ w h
 refine WL.nil (W.sr (WL.z (W.seq (W.label (W.seq ?_)))))
 refine W.sr (WL.l isAgg26 rfl (h.cellB rfl) (WL.v (run_cutH (h := 16) underlying26 sizeOf5 rfl rfl (by omega)) (WL.v (run_lenSlice underlying26 rfl) (WL.m (WL.nil (W.block ?_))))))
 refine W.loop (fun (k : Nat) env w => k ≤ 16 ∧ ∃ (j : Env), env = mkE j [(1, .pointer (some ⟨b1, 0, none⟩)), (2, .pointer (some ⟨b2, 0, none⟩)), (3, .pointer (some ⟨b3, 0, none⟩)), (5, .pointer (some ⟨b5, 0, none⟩)), (7, .pointer (some ⟨b7, 0, none⟩)), (8, .bool false), (33, .slice (some ⟨bb, ob, none⟩) 16 cb), (34, .int .i64 16), (35, .int .i64 (k : Int))] ∧ On W0 (blk b7 [.int .i64 16, .int .i64 0, .int .i64 0, .slice none 0 0, .int .u64 0, .int .u64 0, .int .i64 0, .bool false] 29 :: blk b5 [.int .i64 16, .int .u8 94, .int .u8 0, .bool false, .bool false, .bool false, .bool false, .bool false, .bool true] 81 :: blk b3 [.int .i64 0, .int .i64 0, .int .i64 0, .slice none 0 0, .int .i64 0] 44 :: blk b2 [.int .i64 0, .int .i64 0, .int .i64 0, .slice none 0 0, .int .u64 0, .int .u64 0, .int .i64 0, .bool false] 29 :: blk b1 [.slice (some ⟨bb, ob, none⟩) bs.length cb] 26 :: L) w) (fun k => 16 - k) (0) ?_ ?_
 · exact ⟨by decide, _, mkE_of ⟨rfl, rfl, rfl, rfl, rfl, rfl, rfl, rfl, rfl, trivial⟩, h.to⟩
 clear h
 rintro k env w ⟨hk, j, rfl, h⟩
 refine W.sr (WL.v (run_lss rfl rfl) (WL.nil (W.seq ?_)))
 refine W.condIf rfl (fun c20 => ?_) (fun c20 => ?_)
 ·
  refine W.skip (W.seq ?_)
  have hk16 : k < 16 := by omega
  have ob_ : ∃ c, bs[k]? = some c := ⟨bs[k]'(by omega), List.getElem?_eq_getElem _⟩
  obtain ⟨c, hc⟩ := ob_
  refine W.block (W.sr (WL.m (WL.v (run_indexAddr underlying26 sizeOf5 rfl rfl (by omega) (by omega)) (WL.l isAgg5 rfl ((h.readsTo C).elem (i := k) (vs := [.int .u8 (c.toNat : Int)]) (by omega) (bytes_row hc) 0 _ rfl) (WL.a (WL.a ?_))))))
  refine WL.nil (W.seq (W.sr (WL.v (run_loadB (vs := qv2) h isAgg81 sizeOf81 rfl rfl rfl) (WL.m (WL.e (eff_call call51 (named_ok h)) ?_)))))
  rintro _ w ⟨hv, h⟩
  rw [nb_px k hk16] at hv
  have hcs := Bool.eq_false_or_eq_true (decide (k = 0 ∨ k = 1))
  rcases hcs with hnm | hnm <;> (rw [hnm] at hv; subst hv)
  ·
   refine WL.nil (W.ct (W.exit (W.region (WL.v (run_incN rfl rfl (by omega)) (WL.m (WL.nil ?_))))))
   exact ⟨k + 1, ⟨by omega, _, mkE_of ⟨rfl, rfl, rfl, rfl, rfl, rfl, rfl, rfl, rfl, trivial⟩, h.to⟩, by show 16 - (k + 1) < 16 - k; omega⟩
  have hno := of_decide_eq_false hnm
  have hcd : c = bs.getD k 0 := by rw [List.getD_eq_getElem?_getD, hc]; rfl
  have hc0 : c = 0 := by rw [hcd]; exact hz k hk16 hno
  subst hc0
  refine WL.nil (W.cs (W.seq (W.sr (WL.m (WL.v (run_eqlF rfl rfl (by omega)) ?_)))))
  refine WL.m (WL.s (WL.s (WL.pf (WL.m (WL.s (WL.s (WL.pf ?_)))))))
  refine WL.nil (W.cs (W.region (WL.m (WL.m (WL.m (WL.v (run_neqF rfl rfl (by decide)) ?_))))))
  refine WL.pf (WL.z (W.region (WL.v (run_incN rfl rfl (by omega)) (WL.m (WL.nil ?_)))))
  exact ⟨k + 1, ⟨by omega, _, mkE_of ⟨rfl, rfl, rfl, rfl, rfl, rfl, rfl, rfl, rfl, trivial⟩, h.to⟩, by show 16 - (k + 1) < 16 - k; omega⟩
 refine W.exit (W.seq (W.seq ?_))
 have ek : k = 16 := by omega
 subst ek
 refine W.region (WL.c 3 underlying81 rfl sizeOf4 rfl isAgg4 h rfl (WL.nil (W.cs (W.seq (W.block ?_)))))
 refine W.sr (WL.c 4 underlying81 rfl sizeOf4 rfl isAgg4 h rfl (WL.z (W.cf (W.seq ?_))))
 refine W.region (WL.c 5 underlying81 rfl sizeOf4 rfl isAgg4 h rfl (WL.z (W.cf (W.sr ?_))))
 refine WL.c 7 underlying81 rfl sizeOf4 rfl isAgg4 h rfl (WL.z (W.cs (W.seq (W.seq ?_))))
 refine W.region (WL.m (WL.nil (W.cs (W.sr (WL.v (run_loadB (vs := qv3) h isAgg29 sizeOf29 rfl rfl rfl) ?_)))))
 refine WL.v (run_buildS (pl := qp0) (out := qv0) underlying44 zeroValue44 (fun w => by kernel_rfl) rfl (trivial) rfl) (WL.e (eff_storeW (vs := qv3) h sizeOf29 rfl rfl rfl rfl rfl) ?_)
 rintro _ w h
 refine WL.e (eff_storeW (vs := qv0) h sizeOf44 rfl rfl rfl rfl rfl) ?_
 rintro _ w h
 refine WL.z (W.ret (bodyQ.rcctB (v3 := .bool true) h results14 isAgg29 sizeOf29 isAgg44 sizeOf44 rfl rfl rfl rfl rfl rfl rfl ?_))
 exact ⟨rfl, h.to⟩
end Go.Proofs.YtjfmjbmkkpkppaaGreatDoor
namespace Go.Sl.TpM
open Go Go.Sl Go.Sl.ByM
theorem take_app {A B : List UInt8} {n : Nat} (h : A.length = n) : (A ++ B).take n = A := by rw [List.take_append_of_le_length (by omega), List.take_of_length_le (by omega)]
theorem drop_app {A B : List UInt8} {n : Nat} (h : A.length = n) : (A ++ B).drop n = B := by rw [List.drop_append, List.drop_of_length_le (by omega), List.nil_append, h, Nat.sub_self, List.drop_zero]
theorem encP_app (p : Pd) (s : List UInt8) : encP p ++ s = head48 p ++ (four (crcS (head48 p)) ++ (tailB p.data ++ s)) := by
 unfold encP; rw [List.append_assoc, List.append_assoc]
theorem enc_0 (p : Pd) (s : List UInt8) : (encP p ++ s).getD 0 0 = UInt8.ofNat p.op := rfl
theorem enc_1 (p : Pd) (s : List UInt8) : (encP p ++ s).getD 1 0 = UInt8.ofNat (flagM p) := rfl
theorem enc_2 (p : Pd) (s : List UInt8) : (encP p ++ s).getD 2 0 = UInt8.ofNat p.st := rfl
theorem enc_3 (p : Pd) (s : List UInt8) : (encP p ++ s).getD 3 0 = 0 := rfl
theorem enc_len (p : Pd) (s : List UInt8) : ((encP p ++ s).drop 4).take 4 = be p.data.length 4 := rfl
theorem enc_n0 (p : Pd) (s : List UInt8) : ((encP p ++ s).drop 8).take 4 = be p.tag 4 := rfl
theorem enc_n1 (p : Pd) (s : List UInt8) : ((encP p ++ s).drop 12).take 4 = be p.sn 4 := rfl
theorem enc_n2 (p : Pd) (s : List UInt8) : ((encP p ++ s).drop 16).take 4 = be p.exp 4 := rfl
theorem enc_n3 (p : Pd) (s : List UInt8) : ((encP p ++ s).drop 20).take 4 = be p.max 4 := rfl
theorem enc_n4 (p : Pd) (s : List UInt8) : ((encP p ++ s).drop 24).take 4 = be p.off 4 := rfl
theorem enc_n5 (p : Pd) (s : List UInt8) : ((encP p ++ s).drop 28).take 4 = be p.len 4 := rfl
theorem enc_cdb {p : Pd} (s : List UInt8) (h : p.cdb.length = 16) : ((encP p ++ s).drop 32).take 16 = p.cdb := by
 have e : (encP p ++ s).drop 32 = p.cdb ++ (four (crcS (head48 p)) ++ (tailB p.data ++ s)) := by rw [encP_app]; rfl
 rw [e, take_app h]
theorem known_lt {op : Nat} (h : knownOp op = true) : op < 256 := by
 unfold knownOp at h
 simp only [Bool.or_eq_true, decide_eq_true_eq] at h
 omega
theorem dataN_enc {p : Pd} (s : List UInt8) (h : p.data.length ≤ 4096) : dataN (encP p ++ s) = p.data.length := by
 unfold dataN; rw [enc_len, beV_be (by have : (256 : Nat) ^ 4 = 4294967296 := rfl
                                       omega)]
theorem drop52 {p : Pd} (s : List UInt8) (h : p.cdb.length = 16) : (encP p ++ s).drop 52 = tailB p.data ++ s := by
 have e : (52 : Nat) = 48 + 4 := rfl
 rw [encP_app, e, ← List.drop_drop, drop_app (head48_len h)]; rfl
theorem frontE_enc {p : Pd} (s : List UInt8) (h : okPd p) : frontE (encP p ++ s) = 0 := by
 obtain ⟨⟨h1, h2, h3, h4⟩, h5, h6⟩ := h
 have hl : 52 ≤ (encP p ++ s).length := by
   rw [encP_app, List.length_append, head48_len h1, List.length_append]
   have : (four (crcS (head48 p))).length = 4 := rfl
   omega
 unfold frontE
 rw [if_neg (by omega), if_neg, if_neg, if_neg]
 · rw [dataN_enc s h5]; omega
 · rw [enc_0, enc_3]
   have e : (UInt8.ofNat p.op).toNat = p.op := by
     have := known_lt h2
     simp only [UInt8.toNat_ofNat']; omega
   rw [e, h2]
   rintro (q | q)
   · cases q
   exact q rfl
 have e1 : (encP p ++ s).take 48 = head48 p := by rw [encP_app, take_app (head48_len h1)]
 have e2 : ((encP p ++ s).drop 48).take 4 = four (crcS (head48 p)) := by rw [encP_app, drop_app (head48_len h1)]; rfl
 rw [e1, e2]; exact fun q => q rfl
theorem numAt_enc {p : Pd} (s : List UInt8) (h : ∀ v ∈ nums p, v < 4294967296) : numAt (encP p ++ s) 0 = p.tag ∧ numAt (encP p ++ s) 1 = p.sn ∧ numAt (encP p ++ s) 2 = p.exp ∧ numAt (encP p ++ s) 3 = p.max ∧ numAt (encP p ++ s) 4 = p.off ∧ numAt (encP p ++ s) 5 = p.len := by
 have e : (256 : Nat) ^ 4 = 4294967296 := rfl
 have hh : ∀ v ∈ nums p, beV (be v 4) = v := fun v hv => beV_be (by rw [e]; exact h v hv)
 unfold numAt
 refine ⟨?_, ?_, ?_, ?_, ?_, ?_⟩
 · rw [enc_n0]; exact hh _ (by simp [nums])
 · rw [enc_n1]; exact hh _ (by simp [nums])
 · rw [enc_n2]; exact hh _ (by simp [nums])
 · rw [enc_n3]; exact hh _ (by simp [nums])
 · rw [enc_n4]; exact hh _ (by simp [nums])
 rw [enc_n5]; exact hh _ (by simp [nums])
theorem getP_enc {p : Pd} (s : List UInt8) (h : okPd p) : getP (encP p ++ s) = { p with data := [] } := by
 obtain ⟨⟨h1, h2, h3, h4⟩, h5, h6⟩ := h
 obtain ⟨n0, n1, n2, n3, n4, n5⟩ := numAt_enc s h6
 have e0 : ((encP p ++ s).getD 0 0).toNat = p.op := by
   have := known_lt h2
   rw [enc_0]; simp only [UInt8.toNat_ofNat']; omega
 have e1 : ((encP p ++ s).getD 1 0).toNat = flagM p := by
   rw [enc_1]
   unfold flagM
   simp only [UInt8.toNat_ofNat']
   split <;> omega
 have e2 : ((encP p ++ s).getD 2 0).toNat = p.st := by rw [enc_2]; simp only [UInt8.toNat_ofNat']; omega
 unfold getP
 rw [e0, e1, e2, n0, n1, n2, n3, n4, n5, enc_cdb s h1]
 have ef : decide (128 ≤ flagM p) = p.fin := by
   unfold flagM
   cases p.fin
   · rw [decide_eq_false]; simp; omega
   rw [decide_eq_true]; simp
 have eg : flagM p % 128 = p.flags := by
   unfold flagM
   split <;> omega
 rw [ef, eg]
theorem decE_enc {p : Pd} (s : List UInt8) (h : okPd p) : decE (encP p ++ s) = 0 ∧ decN (encP p ++ s) = (encP p).length ∧ decP (encP p ++ s) = p := by
 have hf := frontE_enc s h
 have hg := getP_enc s h
 obtain ⟨⟨h1, h2, h3, h4⟩, h5, h6⟩ := h
 have hd := dataN_enc s h5
 have h52 := drop52 s h1
 have h48 : (head48 p).length = 48 := head48_len h1
 have h4l : (four (crcS (head48 p))).length = 4 := rfl
 by_cases he : p.data = []
 · refine ⟨?_, ?_, ?_⟩
   · unfold decE; rw [hf, if_neg (fun q => q rfl), if_pos (by rw [hd, he]; rfl)]
   · unfold decN; rw [if_pos (by rw [hd, he]; rfl)]
     unfold encP tailB
     rw [if_pos he, List.length_append, List.length_append, h48, h4l]; rfl
   unfold decP; rw [hg, hd, he]
   show ({ p with data := List.take 0 _ } : Pd) = p
   rw [List.take_zero, ← he]
 have hn : p.data.length ≠ 0 := fun q => he (List.eq_nil_of_length_eq_zero q)
 have ht : tailB p.data = padM p.data ++ four (crcS (padM p.data)) := by unfold tailB; rw [if_neg he]
 have hp : (padM p.data).length = wholeN p.data.length := by
   unfold padM wholeN
   rw [List.length_append, List.length_replicate]; omega
 have h4p : (four (crcS (padM p.data))).length = 4 := rfl
 rw [ht] at h52
 refine ⟨?_, ?_, ?_⟩
 · unfold decE
   rw [hf, if_neg (fun q => q rfl), hd, if_neg hn, h52, if_neg, if_neg, if_neg]
   · rw [Bool.not_eq_false]
     have e : (((padM p.data ++ four (crcS (padM p.data)) ++ s).drop p.data.length).take (wholeN p.data.length - p.data.length)) = List.replicate ((4 - p.data.length % 4) % 4) 0 := by
       have e1 : (padM p.data ++ four (crcS (padM p.data)) ++ s).drop p.data.length = List.replicate ((4 - p.data.length % 4) % 4) 0 ++ (four (crcS (padM p.data)) ++ s) := by
         rw [List.append_assoc]
         unfold padM
         rw [List.append_assoc, drop_app rfl]
       rw [e1, take_app]
       rw [List.length_replicate]; unfold wholeN; omega
     rw [e, List.all_eq_true]
     intro x hx
     rw [List.eq_of_mem_replicate hx]; rfl
   · rw [List.append_assoc, take_app hp, drop_app hp]
     exact fun q => q rfl
   rw [List.length_append, List.length_append, hp, h4p]; omega
 · unfold decN
   rw [hd, if_neg hn]
   unfold encP
   rw [ht, List.length_append, List.length_append, List.length_append, h48, h4l, hp, h4p]
   omega
 unfold decP
 rw [hg, hd, h52, List.append_assoc]
 unfold padM
 rw [List.append_assoc, take_app rfl]
end Go.Sl.TpM
namespace Go.Sl.TpM
open Go Go.Sl Go.Sl.ByM Go.Sl.UnM
def mk1 (k : Int) (a : Nat) (d : List UInt8) : Cm := ⟨k, (a : Int), 1, d, 0, 0, 0, false⟩
def and1 (b : UInt8) : UInt8 := b &&& 1
def plainM (n at_ b : UInt8) : Cm :=
 if n.toNat % 8 = 0 ∨ n.toNat % 8 = 1 then mk1 3 (at_.toNat % 32) (List.replicate 8 b)
 else if n.toNat % 8 = 2 then mk1 2 (at_.toNat % 32) []
 else if n.toNat % 8 = 3 then mk1 6 (at_.toNat % 32) (List.replicate 8 (and1 b) ++ List.replicate 8 b)
 else if n.toNat % 8 = 4 then mk1 5 (at_.toNat % 32) []
 else if n.toNat % 8 = 5 then ⟨11, 0, 0, [], 0, (b.toNat : Int), 0, false⟩
 else if n.toNat % 8 = 6 then ⟨12, 0, 0, [], (b.toNat : Int), 0, 1, false⟩
 else ⟨16, 0, 0, [], 0, 0, 0, false⟩
inductive PlainC : Cm → Prop
 | write (a : Nat) (h : a < 32) (b : UInt8) : PlainC (mk1 3 a (List.replicate 8 b))
 | read (a : Nat) (h : a < 32) : PlainC (mk1 2 a [])
 | comp (a : Nat) (h : a < 32) (d : List UInt8) (hd : d.length = 16) : PlainC (mk1 6 a d)
 | unmap (a : Nat) (h : a < 32) : PlainC (mk1 5 a [])
 | reg (b : UInt8) : PlainC ⟨11, 0, 0, [], 0, (b.toNat : Int), 0, false⟩
 | resv (b : UInt8) : PlainC ⟨12, 0, 0, [], (b.toNat : Int), 0, 1, false⟩
 | keys : PlainC ⟨16, 0, 0, [], 0, 0, 0, false⟩
theorem plainM_is (n at_ b : UInt8) : PlainC (plainM n at_ b) := by
 have ha : at_.toNat % 32 < 32 := Nat.mod_lt _ (by decide)
 unfold plainM
 split
 · exact .write _ ha b
 split
 · exact .read _ ha
 split
 · exact .comp _ ha _ (by simp)
 split
 · exact .unmap _ ha
 split
 · exact .reg b
 split
 · exact .resv b
 exact .keys
def cdbP (c : Cm) : List UInt8 :=
 if c.kind = 2 then ([136, 0] ++ be c.at_.toNat 8) ++ (be 1 4 ++ [0, 0])
 else if c.kind = 3 then ([138, 0] ++ be c.at_.toNat 8) ++ (be 1 4 ++ [0, 0])
 else if c.kind = 5 then ([66, 0] ++ be c.at_.toNat 8) ++ (be 1 4 ++ [0, 0])
 else if c.kind = 6 then ([137, 0] ++ be c.at_.toNat 8) ++ [0, 0, 0, UInt8.ofNat 1, 0, 0]
 else if c.kind = 11 then [95, 6] ++ [0, 0, 0, 0, 0, 0, 0, 0, 0, 0, 0, 0, 0, 0]
 else if c.kind = 12 then [95, 1, UInt8.ofNat 1] ++ [0, 0, 0, 0, 0, 0, 0, 0, 0, 0, 0, 0, 0]
 else [94, 0] ++ [0, 0, 0, 0, 0, 0, 0, 0, 0, 0, 0, 0, 0, 0]
theorem cdbP_len {c : Cm} (h : PlainC c) : (cdbP c).length = 16 := by
 cases h <;> rfl
def prB (k o : Nat) : List UInt8 := be k 8 ++ be o 8 ++ be 0 8
theorem prB_len (k o : Nat) : (prB k o).length = 24 := by simp only [prB, List.length_append, be_length]
theorem prB_k (k o : Nat) : ((prB k o).drop 0).take 8 = be k 8 := rfl
theorem prB_o (k o : Nat) : ((prB k o).drop 8).take 8 = be o 8 := rfl
theorem prB_z (k o : Nat) : ((prB k o).drop 16).take 8 = be 0 8 := rfl
def dataP (c : Cm) : List UInt8 := if 10 ≤ c.kind then prB c.key.toNat c.new.toNat else c.data
theorem dataP_len {c : Cm} (h : PlainC c) : (dataP c).length ≤ 24 := by
 cases h with
 | comp a ha d hd => show d.length ≤ 24; omega
 | write a ha b => show (List.replicate 8 b).length ≤ 24; simp
 | read a ha => show (0 : Nat) ≤ 24; decide
 | unmap a ha => show (0 : Nat) ≤ 24; decide
 | reg b => show (prB 0 ((b.toNat : Int)).toNat).length ≤ 24; rw [prB_len]; exact Nat.le_refl _
 | resv b => show (prB ((b.toNat : Int)).toNat 0).length ≤ 24; rw [prB_len]; exact Nat.le_refl _
 | keys => show (prB 0 0).length ≤ 24; rw [prB_len]; exact Nat.le_refl _
def pduP (c : Cm) (tag sn : Nat) : Pd := { zPd with op := 1, tag := tag, sn := sn, cdb := cdbP c, data := dataP c }
theorem pduP_ok {c : Cm} {tag sn : Nat} (h : PlainC c) (ht : tag < 4294967296) (hs : sn < 4294967296) : okPd (pduP c tag sn) := by
 refine ⟨⟨cdbP_len h, rfl, (show (0 : Nat) < 128 by decide), (show (0 : Nat) < 256 by decide)⟩, ?_, ?_⟩
 · have := dataP_len h
   show (dataP c).length ≤ 4096
   omega
 intro v hv
 simp only [nums, pduP, zPd, List.mem_cons, List.not_mem_nil, or_false] at hv
 rcases hv with rfl | rfl | rfl | rfl | rfl | rfl <;> first | exact ht | exact hs | decide
theorem plain_out {c : Cm} (h : PlainC c) (hk : ¬ 10 ≤ c.kind) : (c.data.length : Int) = outN c := by
 cases h with
 | comp a ha d hd => show ((d.length : Nat) : Int) = 16; omega
 | write a ha b => rfl
 | read a ha => rfl
 | unmap a ha => rfl
 | reg b => exact (hk (show (10 : Int) ≤ 11 by decide)).elim
 | resv b => exact (hk (show (10 : Int) ≤ 12 by decide)).elim
 | keys => exact (hk (show (10 : Int) ≤ 16 by decide)).elim
theorem plain_keys {c : Cm} (h : PlainC c) : (0 ≤ c.key ∧ c.key < 256) ∧ (0 ≤ c.new ∧ c.new < 256) := by
 cases h with
 | reg b => exact ⟨⟨(show (0 : Int) ≤ 0 by decide), (show (0 : Int) < 256 by decide)⟩, ⟨Int.natCast_nonneg _, by have := b.toNat_lt; show ((b.toNat : Nat) : Int) < 256; omega⟩⟩
 | resv b => exact ⟨⟨Int.natCast_nonneg _, by have := b.toNat_lt; show ((b.toNat : Nat) : Int) < 256; omega⟩, ⟨(show (0 : Int) ≤ 0 by decide), (show (0 : Int) < 256 by decide)⟩⟩
 | comp a ha d hd => exact ⟨⟨(show (0 : Int) ≤ 0 by decide), (show (0 : Int) < 256 by decide)⟩, ⟨(show (0 : Int) ≤ 0 by decide), (show (0 : Int) < 256 by decide)⟩⟩
 | write a ha b => exact ⟨⟨(show (0 : Int) ≤ 0 by decide), (show (0 : Int) < 256 by decide)⟩, ⟨(show (0 : Int) ≤ 0 by decide), (show (0 : Int) < 256 by decide)⟩⟩
 | read a ha => exact ⟨⟨(show (0 : Int) ≤ 0 by decide), (show (0 : Int) < 256 by decide)⟩, ⟨(show (0 : Int) ≤ 0 by decide), (show (0 : Int) < 256 by decide)⟩⟩
 | unmap a ha => exact ⟨⟨(show (0 : Int) ≤ 0 by decide), (show (0 : Int) < 256 by decide)⟩, ⟨(show (0 : Int) ≤ 0 by decide), (show (0 : Int) < 256 by decide)⟩⟩
 | keys => exact ⟨by decide, by decide⟩
end Go.Sl.TpM
namespace Go.Proofs.YtjfmjbmkkpkppaaGreatDoor
open Go.Proofs.Tryz
open Go Go.Sl Go.Sl.BitM Go.Sl.SpM Go.Sl.RsM Go.Sl.ByM Go.Sl.UnM Go.Sl.TpM
set_option maxHeartbeats 1000000
set_option maxRecDepth 8000
variable {W0 w : World} {L F : List HProp}
theorem and31 (x : UInt8) : (((x.toNat &&& 31 : Nat) : Int)) = ((x.toNat % 32 : Nat) : Int) := by
 rw [show x.toNat &&& 31 = x.toNat % 2 ^ 5 from Nat.and_two_pow_sub_one_eq_mod x.toNat 5]
theorem and1_val (x : UInt8) : (((x.toNat &&& 1 : Nat) : Int)) = (((and1 x).toNat : Nat) : Int) := by
 unfold and1; rw [UInt8.toNat_and]; rfl
theorem results_ttct {fn : Func} {u v p x : Nat} {ty : TypeId} {tmps : Array Value} {P : Program} {w : World} (h : fn.results = #[.tmp u, .tmp v, .cell p ty, .tmp x]) :
   (results fn tmps).run P w = ((asAddr (tmps.getD p undef)).run P w).andThen fun a w₁ => ((loadVar ty a).run P w₁).andThen fun y w₂ => .ok (.tuple #[tmps.getD u undef, tmps.getD v undef, y, tmps.getD x undef]) w₂ := by
 simp only [results, h]
 simp [Sem.run_bind, Result.andThen]
theorem bodyQ.ttct {P : Program} {env : Env} {fn : Func} {R : Value → World → Prop} {t u v x rt b n : Nat} {l vs : List Value} {v1 v2 v4 : Value} {e : Nat} {fr : Nat × Nat} (H : On W0 L w) (h : fn.results = #[.tmp u, .tmp v, .cell t rt, .tmp x]) (hA : ∀ w, (isAgg rt).run P w = .ok true w) (hS : ∀ w, (sizeOf rt).run P w = .ok n w)
   (he : env t = .pointer (some ⟨b, 0, none⟩)) [i : HasBlk L b l e fr] (hv : l = vs) (hl : vs.length = n) (h1 : env u = v1) (h2 : env v = v2) (h4 : env x = v4) (hw : w = w) (hR : R (.tuple #[v1, v2, .agg vs.toArray, v4]) w) : bodyQ P fn R .ret env w := by
 refine ⟨.tuple #[v1, v2, .agg vs.toArray, v4], fun tmps hg => ?_, hR⟩
 have hp : tmps.getD t undef = .pointer (some ⟨b, 0, none⟩) := by rw [hg, he]
 have hc : ∀ j u, vs[j]? = some u → w.cell? ⟨b, 0 + j, none⟩ = some u := fun j u hj => by rw [Nat.zero_add]; exact H.cellB (i := i) (by rw [hv]; exact hj)
 have := run_loadCells_list (P := P) w ⟨b, 0, none⟩ vs (fun j v hv => by rw [Addr.add_mk]; exact hc j v hv)
 rw [hl] at this
 rw [results_ttct h, hp]
 simp only [asAddr, Sem.run_pure, Result.andThen_ok]
 simp [loadVar, hA, hS, this, ← h1, ← h2, ← h4, ← hg u, ← hg v, ← hg x]
theorem plain_ok {x0 x1 x2 : UInt8} (h : On W0 L w) : Calls Tryz.prog 7 #[.int .u8 (x0.toNat : Int), .int .u8 (x1.toNat : Int), .int .u8 (x2.toNat : Int)] w (Ret fun v w' => ∃ ad cd, v = (plainM x0 x1 x2).val (.slice ad (plainM x0 x1 x2).data.length cd) ∧ On W0 (OwnB (.slice ad (plainM x0 x1 x2).data.length cd) (plainM x0 x1 x2).data :: L) w') := by
 refine enter func7 rfl ntmps7 rfl ?_
 have hmx := maxLen_eq
 have q1 := x1.toNat_lt
 have q2 := x2.toNat_lt
 have q0 := x0.toNat_lt
 refine W.sr (WL.e (eff_alloc h zeroValue29 rfl) ?_)
 rintro _ w ⟨b6, rfl, h⟩
 refine WL.nil (W.sr (WL.m (WL.v (run_andV (m := x1.toNat) (n := 31) (and31 _) rfl rfl (by show _ ≤ (255 : Int); omega) (by decide)) (WL.v (run_convInt64 underlying5 underlying3 rfl (by omega) (by omega)) (WL.z ?_)))))
 refine W.seq (W.sr (WL.m (WL.v (run_rem rfl rfl (by omega) (by decide)) (WL.nil (W.block (W.seq ?_))))))
 refine W.sr (WL.v (run_eql rfl rfl) (WL.z ?_))
 refine W.condIf rfl (fun c5 => ?_) (fun c5 => ?_)
 ·
  refine W.skip ?_
  refine W.condIf rfl (fun c8 => ?_) (fun c8 => ?_)
  ·
   refine W.sr (WL.m (WL.m (WL.e (eff_call call35 (lone_ok (x := x2) h)) ?_)))
   rintro _ w ⟨a18, rfl, h⟩
   refine WL.v (run_buildS (pl := qp4) (out := qv3) underlying29 zeroValue29 (fun w => by kernel_rfl) rfl (⟨⟨_, _, rfl, rfl, by decide⟩, ⟨⟨_, _, rfl, rfl, by decide⟩, ⟨⟨_, _, rfl, rfl, by decide⟩, ⟨⟨_, _, rfl, rfl, by decide⟩, trivial⟩⟩⟩⟩) rfl) ?_
   refine WL.e (eff_storeW (vs := [.int .i64 3, .int .i64 ((x1.toNat % 32 : Nat) : Int), .int .i64 1, .slice a18 (List.replicate 8 x2).length (List.replicate 8 x2).length, .int .u64 0, .int .u64 0, .int .i64 0, .bool false]) h sizeOf29 rfl rfl rfl rfl rfl) ?_
   rintro _ w h
   refine WL.nil (W.ret (bodyQ.rcB (vs := [.int .i64 3, .int .i64 ((x1.toNat % 32 : Nat) : Int), .int .i64 1, .slice a18 (List.replicate 8 x2).length (List.replicate 8 x2).length, .int .u64 0, .int .u64 0, .int .i64 0, .bool false]) h results7 isAgg29 sizeOf29 rfl rfl rfl ?_))
   have ep : plainM x0 x1 x2 = mk1 3 (x1.toNat % 32) (List.replicate 8 x2) := by unfold plainM; rw [if_pos (by omega)]
   rw [ep]
   have h := h.to (T := OwnB (.slice a18 (List.replicate 8 x2).length (List.replicate 8 x2).length) (List.replicate 8 x2) :: L)
   exact ⟨_, _, rfl, h⟩
  exfalso; omega
 refine W.region (WL.v (run_eql rfl rfl) (WL.z ?_))
 refine W.condIf rfl (fun c8 => ?_) (fun c8 => ?_)
 ·
  refine W.sr (WL.m (WL.m (WL.e (eff_call call35 (lone_ok (x := x2) h)) ?_)))
  rintro _ w ⟨a18, rfl, h⟩
  refine WL.v (run_buildS (pl := qp4) (out := qv3) underlying29 zeroValue29 (fun w => by kernel_rfl) rfl (⟨⟨_, _, rfl, rfl, by decide⟩, ⟨⟨_, _, rfl, rfl, by decide⟩, ⟨⟨_, _, rfl, rfl, by decide⟩, ⟨⟨_, _, rfl, rfl, by decide⟩, trivial⟩⟩⟩⟩) rfl) ?_
  refine WL.e (eff_storeW (vs := [.int .i64 3, .int .i64 ((x1.toNat % 32 : Nat) : Int), .int .i64 1, .slice a18 (List.replicate 8 x2).length (List.replicate 8 x2).length, .int .u64 0, .int .u64 0, .int .i64 0, .bool false]) h sizeOf29 rfl rfl rfl rfl rfl) ?_
  rintro _ w h
  refine WL.nil (W.ret (bodyQ.rcB (vs := [.int .i64 3, .int .i64 ((x1.toNat % 32 : Nat) : Int), .int .i64 1, .slice a18 (List.replicate 8 x2).length (List.replicate 8 x2).length, .int .u64 0, .int .u64 0, .int .i64 0, .bool false]) h results7 isAgg29 sizeOf29 rfl rfl rfl ?_))
  have ep : plainM x0 x1 x2 = mk1 3 (x1.toNat % 32) (List.replicate 8 x2) := by unfold plainM; rw [if_pos (by omega)]
  rw [ep]
  have h := h.to (T := OwnB (.slice a18 (List.replicate 8 x2).length (List.replicate 8 x2).length) (List.replicate 8 x2) :: L)
  exact ⟨_, _, rfl, h⟩
 refine W.sr (WL.v (run_eql rfl rfl) (WL.z ?_))
 refine W.condIf rfl (fun c12 => ?_) (fun c12 => ?_)
 ·
  refine W.sr (WL.m (WL.v (run_buildS (pl := qp4) (out := qv3) underlying29 zeroValue29 (fun w => by kernel_rfl) rfl (⟨⟨_, _, rfl, rfl, by decide⟩, ⟨⟨_, _, rfl, rfl, by decide⟩, ⟨⟨_, _, rfl, rfl, by decide⟩, trivial⟩⟩⟩) rfl) (WL.e (eff_storeW (vs := [.int .i64 2, .int .i64 ((x1.toNat % 32 : Nat) : Int), .int .i64 1, .slice none 0 0, .int .u64 0, .int .u64 0, .int .i64 0, .bool false]) h sizeOf29 rfl rfl rfl rfl rfl) ?_)))
  rintro _ w h
  refine WL.nil (W.ret (bodyQ.rcB (vs := [.int .i64 2, .int .i64 ((x1.toNat % 32 : Nat) : Int), .int .i64 1, .slice none 0 0, .int .u64 0, .int .u64 0, .int .i64 0, .bool false]) h results7 isAgg29 sizeOf29 rfl rfl rfl ?_))
  have h := h.ownEmpty 1 none
  have h : On W0 (OwnB (.slice none ([] : List UInt8).length 0) [] :: _) w := h
  have ep : plainM x0 x1 x2 = mk1 2 (x1.toNat % 32) [] := by unfold plainM; rw [if_neg (by omega), if_pos (by omega)]
  rw [ep]
  have h := h.to (T := OwnB (.slice none ([] : List UInt8).length 0) [] :: L)
  exact ⟨_, _, rfl, h⟩
 refine W.sr (WL.v (run_eql rfl rfl) (WL.z ?_))
 refine W.condIf rfl (fun c16 => ?_) (fun c16 => ?_)
 ·
  refine W.sr (WL.m (WL.m (WL.v (run_andV (m := x2.toNat) (n := 1) (and1_val _) rfl rfl (by show _ ≤ (255 : Int); omega) (by decide)) (WL.e (eff_call call35 (lone_ok (x := and1 x2) h)) ?_))))
  rintro _ w ⟨a29, rfl, h⟩
  refine WL.m (WL.e (eff_call call35 (lone_ok (x := x2) h)) ?_)
  rintro _ w ⟨a31, rfl, h⟩
  refine WL.e (eff_app (c2 := (List.replicate 8 x2).length) (bytes := 1) (h.own (.slice a29 (List.replicate 8 (and1 x2)).length (List.replicate 8 (and1 x2)).length)) rfl rfl (h.cellsO (v := .slice a31 (List.replicate 8 x2).length (List.replicate 8 x2).length)) underlying26 rfl rfl rfl rfl rfl (by rw [List.length_replicate, List.length_replicate]; omega) (by rw [List.length_replicate, List.length_replicate]; omega) bytes_one) ?_
  rintro _ w ⟨a32, c32, hv32, h⟩
  have el : (List.replicate 8 (and1 x2)).length + (List.replicate 8 x2).length = ((List.replicate 8 (and1 x2)) ++ (List.replicate 8 x2)).length := List.length_append.symm
  have ev : bytesV (List.replicate 8 (and1 x2)) ++ bytesV (List.replicate 8 x2) = bytesV ((List.replicate 8 (and1 x2)) ++ (List.replicate 8 x2)) := by simp [bytesV]
  rw [ev, el] at h
  rw [el] at hv32
  subst hv32
  refine WL.v (run_buildS (pl := qp4) (out := qv3) underlying29 zeroValue29 (fun w => by kernel_rfl) rfl (⟨⟨_, _, rfl, rfl, by decide⟩, ⟨⟨_, _, rfl, rfl, by decide⟩, ⟨⟨_, _, rfl, rfl, by decide⟩, ⟨⟨_, _, rfl, rfl, by decide⟩, trivial⟩⟩⟩⟩) rfl) ?_
  refine WL.e (eff_storeW (vs := [.int .i64 6, .int .i64 ((x1.toNat % 32 : Nat) : Int), .int .i64 1, .slice a32 ((List.replicate 8 (and1 x2)) ++ (List.replicate 8 x2)).length c32, .int .u64 0, .int .u64 0, .int .i64 0, .bool false]) h sizeOf29 rfl rfl rfl rfl rfl) ?_
  rintro _ w h
  refine WL.nil (W.ret (bodyQ.rcB (vs := [.int .i64 6, .int .i64 ((x1.toNat % 32 : Nat) : Int), .int .i64 1, .slice a32 ((List.replicate 8 (and1 x2)) ++ (List.replicate 8 x2)).length c32, .int .u64 0, .int .u64 0, .int .i64 0, .bool false]) h results7 isAgg29 sizeOf29 rfl rfl rfl ?_))
  have ep : plainM x0 x1 x2 = mk1 6 (x1.toNat % 32) ((List.replicate 8 (and1 x2)) ++ (List.replicate 8 x2)) := by unfold plainM; rw [if_neg (by omega), if_neg (by omega), if_pos (by omega)]
  rw [ep]
  have h := h.to (T := OwnB (.slice a32 ((List.replicate 8 (and1 x2)) ++ (List.replicate 8 x2)).length c32) ((List.replicate 8 (and1 x2)) ++ (List.replicate 8 x2)) :: L)
  exact ⟨_, _, rfl, h⟩
 refine W.sr (WL.v (run_eql rfl rfl) (WL.z ?_))
 refine W.condIf rfl (fun c20 => ?_) (fun c20 => ?_)
 ·
  refine W.sr (WL.m (WL.v (run_buildS (pl := qp4) (out := qv3) underlying29 zeroValue29 (fun w => by kernel_rfl) rfl (⟨⟨_, _, rfl, rfl, by decide⟩, ⟨⟨_, _, rfl, rfl, by decide⟩, ⟨⟨_, _, rfl, rfl, by decide⟩, trivial⟩⟩⟩) rfl) (WL.e (eff_storeW (vs := [.int .i64 5, .int .i64 ((x1.toNat % 32 : Nat) : Int), .int .i64 1, .slice none 0 0, .int .u64 0, .int .u64 0, .int .i64 0, .bool false]) h sizeOf29 rfl rfl rfl rfl rfl) ?_)))
  rintro _ w h
  refine WL.nil (W.ret (bodyQ.rcB (vs := [.int .i64 5, .int .i64 ((x1.toNat % 32 : Nat) : Int), .int .i64 1, .slice none 0 0, .int .u64 0, .int .u64 0, .int .i64 0, .bool false]) h results7 isAgg29 sizeOf29 rfl rfl rfl ?_))
  have h := h.ownEmpty 1 none
  have h : On W0 (OwnB (.slice none ([] : List UInt8).length 0) [] :: _) w := h
  have ep : plainM x0 x1 x2 = mk1 5 (x1.toNat % 32) [] := by unfold plainM; rw [if_neg (by omega), if_neg (by omega), if_neg (by omega), if_pos (by omega)]
  rw [ep]
  have h := h.to (T := OwnB (.slice none ([] : List UInt8).length 0) [] :: L)
  exact ⟨_, _, rfl, h⟩
 refine W.sr (WL.v (run_eql rfl rfl) (WL.z ?_))
 refine W.condIf rfl (fun c24 => ?_) (fun c24 => ?_)
 ·
  refine W.sr (WL.m (WL.v (run_convIn underlying5 underlying27 rfl (by show (0 : Int) ≤ _; omega) (by show _ ≤ (18446744073709551615 : Int); omega)) (WL.v (run_buildS (pl := qp4) (out := qv3) underlying29 zeroValue29 (fun w => by kernel_rfl) rfl (⟨⟨_, _, rfl, rfl, by decide⟩, ⟨⟨_, _, rfl, rfl, by decide⟩, trivial⟩⟩) rfl) (WL.e (eff_storeW (vs := [.int .i64 11, .int .i64 0, .int .i64 0, .slice none 0 0, .int .u64 0, .int .u64 (x2.toNat : Int), .int .i64 0, .bool false]) h sizeOf29 rfl rfl rfl rfl rfl) ?_))))
  rintro _ w h
  refine WL.nil (W.ret (bodyQ.rcB (vs := [.int .i64 11, .int .i64 0, .int .i64 0, .slice none 0 0, .int .u64 0, .int .u64 (x2.toNat : Int), .int .i64 0, .bool false]) h results7 isAgg29 sizeOf29 rfl rfl rfl ?_))
  have h := h.ownEmpty 1 none
  have h : On W0 (OwnB (.slice none ([] : List UInt8).length 0) [] :: _) w := h
  have ep : plainM x0 x1 x2 = ⟨11, 0, 0, [], 0, (x2.toNat : Int), 0, false⟩ := by unfold plainM; rw [if_neg (by omega), if_neg (by omega), if_neg (by omega), if_neg (by omega), if_pos (by omega)]
  rw [ep]
  have h := h.to (T := OwnB (.slice none ([] : List UInt8).length 0) [] :: L)
  exact ⟨_, _, rfl, h⟩
 refine W.sr (WL.v (run_eql rfl rfl) (WL.z ?_))
 refine W.condIf rfl (fun c28 => ?_) (fun c28 => ?_)
 ·
  refine W.sr (WL.m (WL.v (run_convIn underlying5 underlying27 rfl (by show (0 : Int) ≤ _; omega) (by show _ ≤ (18446744073709551615 : Int); omega)) (WL.v (run_buildS (pl := qp4) (out := qv3) underlying29 zeroValue29 (fun w => by kernel_rfl) rfl (⟨⟨_, _, rfl, rfl, by decide⟩, ⟨⟨_, _, rfl, rfl, by decide⟩, ⟨⟨_, _, rfl, rfl, by decide⟩, trivial⟩⟩⟩) rfl) (WL.e (eff_storeW (vs := [.int .i64 12, .int .i64 0, .int .i64 0, .slice none 0 0, .int .u64 (x2.toNat : Int), .int .u64 0, .int .i64 1, .bool false]) h sizeOf29 rfl rfl rfl rfl rfl) ?_))))
  rintro _ w h
  refine WL.nil (W.ret (bodyQ.rcB (vs := [.int .i64 12, .int .i64 0, .int .i64 0, .slice none 0 0, .int .u64 (x2.toNat : Int), .int .u64 0, .int .i64 1, .bool false]) h results7 isAgg29 sizeOf29 rfl rfl rfl ?_))
  have h := h.ownEmpty 1 none
  have h : On W0 (OwnB (.slice none ([] : List UInt8).length 0) [] :: _) w := h
  have ep : plainM x0 x1 x2 = ⟨12, 0, 0, [], (x2.toNat : Int), 0, 1, false⟩ := by unfold plainM; rw [if_neg (by omega), if_neg (by omega), if_neg (by omega), if_neg (by omega), if_neg (by omega), if_pos (by omega)]
  rw [ep]
  have h := h.to (T := OwnB (.slice none ([] : List UInt8).length 0) [] :: L)
  exact ⟨_, _, rfl, h⟩
 refine W.skip (W.sr (WL.v (run_buildS (pl := qp4) (out := qv3) underlying29 zeroValue29 (fun w => by kernel_rfl) rfl (⟨⟨_, _, rfl, rfl, by decide⟩, trivial⟩) rfl) (WL.e (eff_storeW (vs := [.int .i64 16, .int .i64 0, .int .i64 0, .slice none 0 0, .int .u64 0, .int .u64 0, .int .i64 0, .bool false]) h sizeOf29 rfl rfl rfl rfl rfl) ?_)))
 rintro _ w h
 refine WL.nil (W.ret (bodyQ.rcB (vs := [.int .i64 16, .int .i64 0, .int .i64 0, .slice none 0 0, .int .u64 0, .int .u64 0, .int .i64 0, .bool false]) h results7 isAgg29 sizeOf29 rfl rfl rfl ?_))
 have h := h.ownEmpty 1 none
 have h : On W0 (OwnB (.slice none ([] : List UInt8).length 0) [] :: _) w := h
 have ep : plainM x0 x1 x2 = ⟨16, 0, 0, [], 0, 0, 0, false⟩ := by unfold plainM; rw [if_neg (by omega), if_neg (by omega), if_neg (by omega), if_neg (by omega), if_neg (by omega), if_neg (by omega)]
 rw [ep]
 have h := h.to (T := OwnB (.slice none ([] : List UInt8).length 0) [] :: L)
 exact ⟨_, _, rfl, h⟩
theorem prenc_ok {k o : Nat} (hk : k < 18446744073709551616) (ho : o < 18446744073709551616) (h : On W0 L w) : Calls Tryz.prog 9 #[.int .u64 (k : Int), .int .u64 (o : Int)] w (Ret fun v w' => ∃ a, v = .slice a (prB k o).length (prB k o).length ∧ On W0 (OwnB (.slice a (prB k o).length (prB k o).length) (prB k o) :: L) w') := by
 refine enter func9 rfl ntmps9 rfl ?_
 have hmx := maxLen_eq
 refine W.sr (WL.z (W.sr (WL.m (WL.e (eff_call call38 (bput_ok (ax := none) (cx := 0) (bs := []) (v := k) (n := 8) h Gives.nilB (by decide) (by decide) hk (by decide))) ?_))))
 rintro _ w ⟨a6, hv, h⟩
 rw [List.nil_append] at hv h
 subst hv
 refine WL.m (WL.e (eff_call call38 (bput_ok (ax := a6) (cx := (be k 8).length) (bs := (be k 8)) (v := o) (n := 8) h (Gives.ownO (v := .slice a6 (be k 8).length (be k 8).length)) (by decide) (by decide) ho (by rw [be_length]; decide))) ?_)
 rintro _ w ⟨a8, hv, h⟩
 subst hv
 refine WL.e (eff_call call38 (bput_ok (ax := a8) (cx := (be k 8 ++ be o 8).length) (bs := (be k 8 ++ be o 8)) (v := 0) (n := 8) h (Gives.ownO (v := .slice a8 (be k 8 ++ be o 8).length (be k 8 ++ be o 8).length)) (by decide) (by decide) (by decide) (by rw [List.length_append, be_length, be_length]; decide))) ?_
 rintro _ w ⟨a9, hv, h⟩
 subst hv
 refine WL.z (W.ret (bodyQ.r1 (v := .slice _ _ _) results9 rfl ?_))
 have h : On W0 (OwnB (.slice a9 (prB k o).length (prB k o).length) (prB k o) :: _) w := h
 exact ⟨a9, rfl, h.to⟩
theorem prdec_ok {k o : Nat} {ax : Option Addr} {cx : Nat} (hk : k < 18446744073709551616) (ho : o < 18446744073709551616) (h : On W0 L w) (C : Gives L (Bytes (.slice ax (prB k o).length cx) (prB k o))) : Calls Tryz.prog 15 #[.slice ax (prB k o).length cx] w (Ret fun v w' => v = .tuple #[.int .u64 (k : Int), .int .u64 (o : Int), .agg #[.int .i64 0, .int .i64 0, .int .i64 0, .slice none 0 0, .int .i64 0], .bool true] ∧ On W0 L w') := by
 refine enter func15 rfl ntmps15 rfl ?_
 have hmx := maxLen_eq
 have hln := prB_len k o
 have e256 : (256 : Nat) ^ 8 = 18446744073709551616 := rfl
 refine W.sr (WL.a (WL.a (WL.e (eff_alloc h zeroValue44 rfl) ?_)))
 rintro _ w ⟨b4, rfl, h⟩
 refine WL.z (W.sr (WL.e (eff_call call49 (wrong_ok h)) ?_))
 rintro _ w ⟨rfl, h⟩
 refine WL.e (eff_alloc h zeroValue44 rfl) ?_
 rintro _ w ⟨b6, rfl, h⟩
 refine WL.e (eff_storeW (vs := qv0) h sizeOf44 rfl rfl rfl rfl rfl) ?_
 rintro _ w h
 refine WL.nil (W.seq (W.sr (WL.m (WL.v (run_lenSlice underlying26 rfl) (WL.v (run_neqF rfl rfl (by omega)) (WL.nil ?_))))))
 refine W.cs (W.sr (WL.m (WL.e (eff_call call52 (bgetE_ok (p := 0) (n := 8) (bs := (prB k o)) (by decide) (by decide) h (Gives.to C))) ?_)))
 rintro _ w ⟨z, ok16, hz16, rfl, h⟩
 have hzz := hz16 (by omega)
 rw [prB_k, beV_be (by omega)] at hzz
 have hzz := hzz.symm
 subst hzz
 refine WL.m (WL.v (run_extract rfl rfl) (WL.v (run_extract rfl rfl) (WL.z (W.sr (WL.m ?_)))))
 refine WL.e (eff_call call52 (bgetE_ok (p := 8) (n := 8) (bs := (prB k o)) (by decide) (by decide) h (Gives.to C))) ?_
 rintro _ w ⟨z2, ok21, hz21, rfl, h⟩
 have hzz := hz21 (by omega)
 rw [prB_o, beV_be (by omega)] at hzz
 have hzz := hzz.symm
 subst hzz
 refine WL.m (WL.v (run_extract rfl rfl) (WL.v (run_extract rfl rfl) (WL.z (W.seq (W.sr ?_)))))
 refine WL.m (WL.e (eff_call call52 (bgetE_ok (p := 16) (n := 8) (bs := (prB k o)) (by decide) (by decide) h (Gives.to C))) ?_)
 rintro _ w ⟨z3, ok26, hz26, rfl, h⟩
 have hzz := hz26 (by omega)
 rw [prB_z, beV_be (by decide)] at hzz
 subst hzz
 refine WL.m (WL.v (run_extract rfl rfl) (WL.v (run_extract rfl rfl) (WL.a (WL.z (W.sr ?_)))))
 refine WL.m (WL.v (run_neqF rfl rfl (by decide)) (WL.nil (W.cs (W.sr (WL.m ?_)))))
 refine WL.m (WL.v (run_buildS (pl := qp0) (out := qv0) underlying44 zeroValue44 (fun w => by kernel_rfl) rfl (trivial) rfl) (WL.a (WL.a (WL.e (eff_storeW (vs := qv0) h sizeOf44 rfl rfl rfl rfl rfl) ?_))))
 rintro _ w h
 refine WL.z (W.ret (bodyQ.ttct (v1 := .int .u64 (k : Int)) (v2 := .int .u64 (o : Int)) (v4 := .bool true) (vs := [.int .i64 0, .int .i64 0, .int .i64 0, .slice none 0 0, .int .i64 0]) h results15 isAgg44 sizeOf44 rfl rfl rfl rfl rfl rfl rfl ?_))
 exact ⟨rfl, h.to⟩
theorem lt8 {a : Nat} (h : a < 32) : a < 256 ^ 8 := Nat.lt_of_lt_of_le h (by decide)
theorem open_seal2 (bs : List UInt8) : openB (sealB bs) = (bs, 0) ∧ (sealB bs).take ((sealB bs).length - 4) = bs ∧ 4 ≤ (sealB bs).length := by
 have hl : (sealB bs).length = bs.length + 4 := by unfold sealB; rw [List.length_append]; rfl
 have e1 : (sealB bs).take ((sealB bs).length - 4) = bs := by
   rw [hl, Nat.add_sub_cancel]
   unfold sealB
   exact List.take_left
 have e2 : (sealB bs).drop ((sealB bs).length - 4) = ByM.four (crcS bs) := by
   rw [hl, Nat.add_sub_cancel]
   unfold sealB
   exact List.drop_left
 refine ⟨?_, e1, by omega⟩
 unfold openB
 rw [if_neg (by omega), e1, e2, if_neg (fun q => q rfl)]
theorem penc_ok {c : Cm} {ax : Option Addr} {cx : Nat} (hc : PlainC c) (h : On W0 L w) : Calls Tryz.prog 8 #[(c.val (.slice ax c.data.length cx))] w (Ret fun v w' => ∃ a, v = .tuple #[.slice a 16 16, .int .i64 0] ∧ On W0 (Own 1 (.slice a 16 16) 16 (bytesV (cdbP c)) :: L) w') := by
 cases hc with
 | write a ha b => exact enc_3_ok (at_ := a) (n := 1) (typ := 0) (key := 0) (new := 0) (data := List.replicate 8 b) (by omega) (by decide) (by decide) h
 | read a ha => exact enc_2_ok (at_ := a) (n := 1) (typ := 0) (key := 0) (new := 0) (data := []) (by omega) (by decide) (by decide) h
 | comp a ha d hd => exact enc_6_ok (at_ := a) (n := 1) (typ := 0) (key := 0) (new := 0) (data := d) (by omega) (by decide) (by decide) h
 | unmap a ha => exact enc_5_ok (at_ := a) (n := 1) (typ := 0) (key := 0) (new := 0) (data := []) (by omega) (by decide) (by decide) h
 | reg b => exact enc_11_ok (at_ := 0) (n := 0) (typ := 0) (key := 0) (new := (b.toNat : Int)) (data := []) (by decide) (by decide) (by decide) h
 | resv b => exact enc_12_ok (at_ := 0) (n := 0) (typ := 1) (key := (b.toNat : Int)) (new := 0) (data := []) (by decide) (by decide) (by decide) h
 | keys => exact enc_16_ok (at_ := 0) (n := 0) (typ := 0) (key := 0) (new := 0) (data := []) (by decide) (by decide) (by decide) h
theorem pdec_ok {c : Cm} {bb ob cb : Nat} (hc : PlainC c) (h : On W0 L w) (C : Gives L (Bytes (.slice (some ⟨bb, ob, none⟩) (cdbP c).length cb) (cdbP c))) : Calls Tryz.prog 14 #[.slice (some ⟨bb, ob, none⟩) (cdbP c).length cb] w (Ret fun v w' => v = .tuple #[.agg #[.int .i64 c.kind, .int .i64 c.at_, .int .i64 c.n, .slice none 0 0, .int .u64 0, .int .u64 0, .int .i64 c.typ, .bool false], .agg #[.int .i64 0, .int .i64 0, .int .i64 0, .slice none 0 0, .int .i64 0], .bool true] ∧ On W0 L w') := by
 cases hc with
 | write a ha b =>
   have hb8 : beV (((cdbP (mk1 3 a (List.replicate 8 b))).drop 2).take 8) = a := (show beV (be a 8) = a from beV_be (lt8 ha))
   have q := dec_3_ok (bs := cdbP (mk1 3 a (List.replicate 8 b))) (cb := cb) rfl rfl ⟨rfl, rfl, rfl⟩ (by rw [hb8]; omega) h C
   rw [hb8] at q
   exact q
 | read a ha =>
   have hb8 : beV (((cdbP (mk1 2 a [])).drop 2).take 8) = a := (show beV (be a 8) = a from beV_be (lt8 ha))
   have q := dec_2_ok (bs := cdbP (mk1 2 a [])) (cb := cb) rfl rfl ⟨rfl, rfl, rfl⟩ (by rw [hb8]; omega) h C
   rw [hb8] at q
   exact q
 | comp a ha d hd =>
   have hb8 : beV (((cdbP (mk1 6 a d)).drop 2).take 8) = a := (show beV (be a 8) = a from beV_be (lt8 ha))
   have q := dec_6_ok (bs := cdbP (mk1 6 a d)) (cb := cb) rfl rfl rfl (by
   intro i hi hn
   have hx : i = 1 ∨ i = 10 ∨ i = 11 ∨ i = 12 ∨ i = 14 ∨ i = 15 := by omega
   rcases hx with e | e | e | e | e | e <;> (rw [e]; rfl)) (by rw [hb8]; omega) h C
   rw [hb8] at q
   exact q
 | unmap a ha =>
   have hb8 : beV (((cdbP (mk1 5 a [])).drop 2).take 8) = a := (show beV (be a 8) = a from beV_be (lt8 ha))
   have q := dec_5_ok (bs := cdbP (mk1 5 a [])) (cb := cb) rfl rfl rfl (by
   intro i hi hn
   have hx : i = 1 ∨ i = 14 ∨ i = 15 := by omega
   rcases hx with e | e | e <;> (rw [e]; rfl)) (by rw [hb8]; omega) h C
   rw [hb8] at q
   exact q
 | reg b =>
   have q := dec_11_ok (bs := cdbP ⟨11, 0, 0, [], 0, (b.toNat : Int), 0, false⟩) (cb := cb) rfl rfl rfl (by
   intro i hi hn
   have hx : i = 2 ∨ i = 3 ∨ i = 4 ∨ i = 5 ∨ i = 6 ∨ i = 7 ∨ i = 8 ∨ i = 9 ∨ i = 10 ∨ i = 11 ∨ i = 12 ∨ i = 13 ∨ i = 14 ∨ i = 15 := by omega
   rcases hx with e | e | e | e | e | e | e | e | e | e | e | e | e | e <;> (rw [e]; rfl)) (by decide) h C
   exact q
 | resv b =>
   have q := dec_12_ok (bs := cdbP ⟨12, 0, 0, [], (b.toNat : Int), 0, 1, false⟩) (cb := cb) rfl rfl rfl (by
   intro i hi hn
   have hx : i = 3 ∨ i = 4 ∨ i = 5 ∨ i = 6 ∨ i = 7 ∨ i = 8 ∨ i = 9 ∨ i = 10 ∨ i = 11 ∨ i = 12 ∨ i = 13 ∨ i = 14 ∨ i = 15 := by omega
   rcases hx with e | e | e | e | e | e | e | e | e | e | e | e | e <;> (rw [e]; rfl)) (by decide) h C
   exact q
 | keys =>
   have q := dec_16_ok (bs := cdbP ⟨16, 0, 0, [], 0, 0, 0, false⟩) (cb := cb) rfl rfl rfl (by
   intro i hi hn
   have hx : i = 2 ∨ i = 3 ∨ i = 4 ∨ i = 5 ∨ i = 6 ∨ i = 7 ∨ i = 8 ∨ i = 9 ∨ i = 10 ∨ i = 11 ∨ i = 12 ∨ i = 13 ∨ i = 14 ∨ i = 15 := by omega
   rcases hx with e | e | e | e | e | e | e | e | e | e | e | e | e | e <;> (rw [e]; rfl)) (by decide) h C
   exact q
theorem gives16 {bs : List UInt8} {a : Option Addr} (h : bs.length = 16) (g : Gives L (Cells 1 (.slice a 16 16) 16 (bytesV bs))) : Gives L (Bytes (.slice a 16 16) bs) := by
 show Gives L (Cells 1 (.slice a 16 16) bs.length (bytesV bs))
 rw [h]; exact g
theorem pdec16_ok {c : Cm} {bb ob cb : Nat} (hc : PlainC c) (h : On W0 L w) (C : Gives L (Bytes (.slice (some ⟨bb, ob, none⟩) 16 cb) (cdbP c))) : Calls Tryz.prog 14 #[.slice (some ⟨bb, ob, none⟩) 16 cb] w (Ret fun v w' => v = .tuple #[.agg #[.int .i64 c.kind, .int .i64 c.at_, .int .i64 c.n, .slice none 0 0, .int .u64 0, .int .u64 0, .int .i64 c.typ, .bool false], .agg #[.int .i64 0, .int .i64 0, .int .i64 0, .slice none 0 0, .int .i64 0], .bool true] ∧ On W0 L w') := by
 have h16 := cdbP_len hc
 have q := pdec_ok (bb := bb) (ob := ob) (cb := cb) hc h (by rw [h16]; exact C)
 rw [h16] at q
 exact q
def pdk (c : Cm) (tag sn k : Nat) : Pd := { zPd with op := 1, tag := tag, sn := sn, cdb := (cdbP c).take k ++ List.replicate (16 - k) 0 }
theorem pdk_cdb {c : Cm} {tag sn k : Nat} (hc : PlainC c) (hk : k ≤ 16) : (pdk c tag sn k).cdb.length = 16 := by
 have := cdbP_len hc
 show ((cdbP c).take k ++ List.replicate (16 - k) 0).length = 16
 rw [List.length_append, List.length_take, List.length_replicate]; omega
theorem cells_setc {p : Pd} {dv : Value} {k : Nat} {x : UInt8} (h : k < p.cdb.length) : (p.cells dv).set (0 + 10 + k) (.int .u8 (x.toNat : Int)) = ({ p with cdb := p.cdb.set k x } : Pd).cells dv := by
 unfold Pd.cells
 have e10 : ∀ (A B C : List Value) (v : Value), A.length = 10 → k < B.length → (A ++ B ++ C).set (0 + 10 + k) v = A ++ B.set k v ++ C := by
   intro A B C v hA hB
   rw [List.append_assoc, List.set_append_right _ _ (by omega), hA, List.set_append_left _ _ (by omega), show 0 + 10 + k - 10 = k by omega, List.append_assoc]
 rw [e10 _ _ _ _ rfl (by unfold bytesV; rw [List.length_map]; exact h), bytes_set]
theorem pdk_set {c : Cm} {tag sn k : Nat} {x : UInt8} {dv : Value} (hc : PlainC c) (hk : k < 16) (hx : (cdbP c)[k]? = some x) : ((pdk c tag sn k).cells dv).set (0 + 10 + k) (.int .u8 (x.toNat : Int)) = (pdk c tag sn (k + 1)).cells dv := by
 rw [cells_setc (by rw [pdk_cdb hc (by omega)]; exact hk)]
 have e : ((cdbP c).take k ++ List.replicate (16 - k) 0).set k x = (cdbP c).take (k + 1) ++ List.replicate (16 - (k + 1)) 0 := by
   have hl := cdbP_len hc
   rw [List.set_append_right _ _ (by rw [List.length_take]; omega), List.length_take, Nat.min_eq_left (by omega), Nat.sub_self, show 16 - k = (16 - (k + 1)) + 1 by omega, List.replicate_succ, List.set_cons_zero, List.take_add_one, hx]
   simp
 show ({ pdk c tag sn k with cdb := ((cdbP c).take k ++ List.replicate (16 - k) 0).set k x } : Pd).cells dv = _
 rw [e]; rfl
theorem pdk_all {c : Cm} {tag sn : Nat} {dv : Value} (hc : PlainC c) : (pdk c tag sn 16).cells dv = (pduP c tag sn).cells dv := by
 have e : (cdbP c).take 16 ++ List.replicate (16 - 16) 0 = cdbP c := by
   rw [List.take_of_length_le (by rw [cdbP_len hc]; exact Nat.le_refl _)]; simp
 show ({ zPd with op := 1, tag := tag, sn := sn, cdb := (cdbP c).take 16 ++ List.replicate (16 - 16) 0 } : Pd).cells dv = _
 rw [e]; rfl
theorem tbytes_law {m : Int} (G : Gives L (GlP m)) {x0 x1 x2 : UInt8} {tag sn : Nat} (ht : tag < 4294967296) (hs : sn < 4294967296) (h : On W0 L w) : Calls Tryz.prog 3 #[.agg #[.int .u8 (x0.toNat : Int), .int .u8 (x1.toNat : Int), .int .u8 (x2.toNat : Int)], .int .u32 (tag : Int), .int .u32 (sn : Int)] w (Ret fun v w' => v = .bool true ∧ On W0 L w') := by
 refine enter func3 rfl ntmps3 rfl ?_
 have hmx := maxLen_eq
 refine W.sr (WL.e (eff_box (v := .agg #[.int .u8 (x0.toNat : Int), .int .u8 (x1.toNat : Int), .int .u8 (x2.toNat : Int)]) (l := [.int .u8 (x0.toNat : Int), .int .u8 (x1.toNat : Int), .int .u8 (x2.toNat : Int)]) h rfl rfl) ?_)
 rintro _ w ⟨b3, rfl, h⟩
 refine WL.z (W.seq (W.sr (WL.e (eff_call call6 (tknown_ok (Gives.to G) h)) ?_)))
 rintro _ w ⟨rfl, h⟩
 refine WL.v (run_not rfl) (WL.nil (W.cs (W.sr (WL.c 0 underlying23 rfl sizeOf5 rfl isAgg5 h rfl ?_))))
 refine WL.c 1 underlying23 rfl sizeOf5 rfl isAgg5 h rfl (WL.c 2 underlying23 rfl sizeOf5 rfl isAgg5 h rfl (WL.e (eff_call call7 (plain_ok h)) ?_))
 rintro _ w ⟨ad, cd, rfl, h⟩
 have ob_ : ∃ c, c = plainM x0 x1 x2 := ⟨_, rfl⟩
 obtain ⟨c, hcd⟩ := ob_
 have hpc : PlainC c := hcd ▸ plainM_is _ _ _
 rw [← hcd] at h ⊢
 have hkq := plain_keys hpc
 obtain ⟨⟨hk0, hk1⟩, hn0, hn1⟩ := hkq
 have hke : ((c.key.toNat : Nat) : Int) = c.key := Int.toNat_of_nonneg hk0
 have hne : ((c.new.toNat : Nat) : Int) = c.new := Int.toNat_of_nonneg hn0
 have hok := pduP_ok hpc ht hs
 have hel := encP_len hok
 have hdl := dataP_len hpc
 have h16 := cdbP_len hpc
 have hp16 : (pduP c tag sn).cdb.length = 16 := h16
 refine WL.e (eff_alloc h zeroValue29 rfl) ?_
 rintro _ w ⟨b7, rfl, h⟩
 refine WL.e (eff_storeW (vs := c.cells (.slice ad c.data.length cd)) h sizeOf29 rfl rfl rfl rfl rfl) ?_
 rintro _ w h
 have h : On W0 (blk b7 (c.cells (.slice ad c.data.length cd)) 29 :: _) w := h
 refine WL.nil (W.sr (WL.v (run_loadB (vs := c.cells (.slice ad c.data.length cd)) h isAgg29 sizeOf29 rfl rfl rfl) (WL.e (eff_call call8 (penc_ok hpc h)) ?_)))
 rintro _ w ⟨ab, rfl, h⟩
 refine WL.m (WL.v (run_extract rfl rfl) (WL.v (run_extract rfl rfl) (WL.a (WL.z (W.sr ?_)))))
 refine WL.m (WL.m (WL.c 3 underlying29 rfl sizeOf26 rfl isAgg26 h rfl ?_))
 refine WL.v (run_buildS (pl := qp2) (out := qv1) underlying36 zeroValue36 (fun w => by kernel_rfl) rfl (⟨⟨_, _, rfl, rfl, by decide⟩, ⟨⟨_, _, rfl, rfl, by decide⟩, ⟨⟨_, _, rfl, rfl, by decide⟩, ⟨⟨_, _, rfl, rfl, by decide⟩, trivial⟩⟩⟩⟩) rfl) ?_
 refine WL.e (eff_alloc h zeroValue36 rfl) ?_
 rintro _ w ⟨b10, rfl, h⟩
 refine WL.e (eff_storeW (vs := ((pdk c tag sn 0).cells (.slice ad c.data.length cd))) h sizeOf36 rfl rfl rfl rfl rfl) ?_
 rintro _ w h
 have h : On W0 (blk b10 ((pdk c tag sn 0).cells (.slice ad c.data.length cd)) 36 :: _) w := h
 refine WL.nil ?_
 refine W.cut (fun env w => ∃ (j : Env) (ad2 : Option Addr) (cd2 : Nat) (Lx : List HProp), (∀ w, On W0 Lx w → On W0 L w) ∧ Gives Lx (Bytes (.slice ad2 (dataP c).length cd2) (dataP c)) ∧ Gives Lx (Bytes (.slice ad c.data.length cd) c.data) ∧ env = mkE j [(1, .int .u32 (tag : Int)), (2, .int .u32 (sn : Int)), (7, .pointer (some ⟨b7, 0, none⟩)), (8, .slice ab 16 16), (9, .int .i64 0), (10, .pointer (some ⟨b10, 0, none⟩))] ∧ On W0 (blk b10 ((pdk c tag sn 0).cells (.slice ad2 (dataP c).length cd2)) 36 :: blk b7 (c.cells (.slice ad c.data.length cd)) 29 :: Own 1 (.slice ab 16 16) 16 (bytesV (cdbP c)) :: Lx) w) ?_ ?_
 ·
  refine W.sr (WL.c 0 underlying29 rfl sizeOf3 rfl isAgg3 h rfl (WL.v (run_geq rfl rfl) (WL.nil ?_)))
  refine W.condIf rfl (fun c10 => ?_) (fun c10 => ?_)
  ·
   refine W.region (WL.f 4 underlying29 rfl sizeOf27 rfl rfl (WL.l isAgg27 rfl (h.cellB (v := .int .u64 ((c.key.toNat : Nat) : Int)) (by rw [hke]; rfl)) (WL.f 5 underlying29 rfl sizeOf27 rfl rfl (WL.l isAgg27 rfl (h.cellB (v := .int .u64 ((c.new.toNat : Nat) : Int)) (by rw [hne]; rfl)) (WL.e (eff_call call9 (prenc_ok (k := c.key.toNat) (o := c.new.toNat) (by omega) (by omega) h)) ?_)))))
   rintro _ w ⟨a52, rfl, h⟩
   refine WL.f 26 underlying36 rfl sizeOf26 rfl rfl (WL.e (eff_store (v := .slice a52 (prB c.key.toNat c.new.toNat).length (prB c.key.toNat c.new.toNat).length) h sizeOf26 rfl rfl rfl (by rw [cells_len (pdk_cdb hpc (by decide))]; rfl) rfl) ?_)
   rintro _ w h
   rw [TpM.cells_set (pdk_cdb hpc (by decide))] at h
   refine WL.nil ?_
   have ed : dataP c = prB c.key.toNat c.new.toNat := if_pos c10
   rw [← ed] at h
   exact ⟨_, a52, (dataP c).length, OwnB (.slice a52 (dataP c).length (dataP c).length) (dataP c) :: OwnB (.slice ad c.data.length cd) c.data :: L, fun w h => h.tail.tail, Gives.ownO (v := .slice a52 (dataP c).length (dataP c).length), Gives.ownO (v := (.slice ad c.data.length cd)), mkE_of ⟨rfl, rfl, rfl, rfl, rfl, rfl, trivial⟩, h.to⟩
  refine W.skip ?_
  have ed : dataP c = c.data := if_neg c10
  rw [ed]
  exact ⟨_, ad, cd, OwnB (.slice ad c.data.length cd) c.data :: L, fun w h => h.tail, Gives.ownO (v := (.slice ad c.data.length cd)), Gives.ownO (v := (.slice ad c.data.length cd)), mkE_of ⟨rfl, rfl, rfl, rfl, rfl, rfl, trivial⟩, h.to⟩
 clear h
 rintro env w ⟨j, ad2, cd2, Lx, hLx, G2, G1, rfl, h⟩
 have had_ := (h.cellsO (v := .slice ab 16 16)).addr (by decide)
 obtain ⟨bb, ob, hab⟩ := had_
 refine W.seq (W.sr (WL.z (W.block ?_)))
 refine W.loop (fun (k : Nat) env w => k ≤ 16 ∧ ∃ (j : Env), env = mkE j [(1, .int .u32 (tag : Int)), (2, .int .u32 (sn : Int)), (7, .pointer (some ⟨b7, 0, none⟩)), (8, .slice ab 16 16), (9, .int .i64 0), (10, .pointer (some ⟨b10, 0, none⟩)), (11, .int .i64 (k : Int))] ∧ On W0 (blk b10 ((pdk c tag sn k).cells (.slice ad2 (dataP c).length cd2)) 36 :: blk b7 (c.cells (.slice ad c.data.length cd)) 29 :: Own 1 (.slice ab 16 16) 16 (bytesV (cdbP c)) :: Lx) w) (fun k => 16 - k) (0) ?_ ?_
 · exact ⟨by decide, _, mkE_of ⟨rfl, rfl, rfl, rfl, rfl, rfl, rfl, trivial⟩, h.to⟩
 clear h
 rintro k env w ⟨hk, j, rfl, h⟩
 refine W.seq (W.sr (WL.m ?_))
 refine WL.q (run_lss rfl rfl) (fun c55 => ?_) (fun c55 => ?_)
 ·
  refine WL.m (WL.m (WL.m (WL.v (run_lenSlice underlying26 rfl) (WL.v (run_lss rfl rfl) (WL.pt (WL.nil ?_))))))
  refine W.condIf rfl (fun c17 => ?_) (fun c17 => ?_)
  ·
   refine W.skip (W.seq ?_)
   have hk16 : k < 16 := by omega
   have ob_ : ∃ x, (cdbP c)[k]? = some x := ⟨(cdbP c)[k]'(by omega), List.getElem?_eq_getElem _⟩
   obtain ⟨x, hx⟩ := ob_
   have hck := pdk_cdb (tag := tag) (sn := sn) hpc hk
   refine W.block (W.region (WL.m (WL.m (WL.m (WL.v (run_indexAddr underlying26 sizeOf5 (congrArg (fun q => Value.slice q 16 16) hab) rfl (by omega) (by omega)) (WL.l isAgg5 rfl ((by rw [hab] at h; exact (h.cellsO (v := .slice (some ⟨bb, ob, none⟩) 16 16)).elem (i := k) (vs := [.int .u8 (x.toNat : Int)]) hk16 (bytes_row hx) 0 _ rfl)) (WL.f 10 underlying36 rfl sizeOf34 rfl rfl ?_)))))))
   refine WL.v (run_indexAddrArr underlying34 sizeOf5 rfl rfl (by omega) (by omega)) (WL.e (eff_store (v := .int .u8 (x.toNat : Int)) h sizeOf5 rfl rfl rfl (by rw [cells_len hck, Nat.ble_eq]; omega) rfl) ?_)
   rintro _ w h
   rw [show 0 + 10 + Int.toNat (k : Int) * 1 = 0 + 10 + k by rw [Int.toNat_natCast, Nat.mul_one], pdk_set hpc hk16 hx] at h
   refine WL.nil (W.region (WL.m (WL.v (run_incN rfl rfl (by omega)) (WL.z ?_))))
   exact ⟨k + 1, ⟨by omega, _, mkE_of ⟨rfl, rfl, rfl, rfl, rfl, rfl, rfl, trivial⟩, h.to⟩, by show 16 - (k + 1) < 16 - k; omega⟩
  refine W.exit (W.seq ?_)
  have ek : k = 16 := by omega
  subst ek
  rw [pdk_all hpc] at h
  have hde := decE_enc [] hok
  rw [List.append_nil] at hde
  obtain ⟨hd1, hd2, hd3⟩ := hde
  have hos := open_seal2 (encP (pduP c tag sn))
  obtain ⟨ho1, ho2, ho3⟩ := hos
  refine W.region (WL.v (run_loadB (vs := Pd.cells (pduP c tag sn) (.slice ad2 (dataP c).length cd2)) h isAgg36 sizeOf36 rfl (List.take_of_length_le (Nat.le_of_eq (cells_len hp16))) (cells_len hp16)) (WL.e (eff_call call10 (pencode_ok (p := (pduP c tag sn)) (ad := ad2) (cd := cd2) hok h (Gives.to G2))) ?_))
  rintro _ w ⟨a73, rfl, h⟩
  refine WL.m (WL.v (run_extract rfl rfl) (WL.v (run_extract rfl rfl) (WL.a (WL.z (W.sr ?_)))))
  refine WL.m (WL.e (eff_call call12 (seal_ok (bs := (encP (pduP c tag sn))) h (Gives.ownO (v := .slice a73 (encP (pduP c tag sn)).length (encP (pduP c tag sn)).length)) (by omega))) ?_)
  rintro _ w ⟨a78, rfl, h⟩
  refine WL.e (eff_call call11 (open_ok (bs := sealB (encP (pduP c tag sn))) h (Gives.ownO (v := .slice a78 (sealB (encP (pduP c tag sn))).length (sealB (encP (pduP c tag sn))).length)) (by rw [sealB_len]; omega))) ?_
  rintro _ w hv
  rcases hv with ⟨_, _, a79, rfl, h⟩ | ⟨hn, _⟩
  rotate_left
  · rw [ho1] at hn; exact (hn rfl).elim
  rw [ho2] at h ⊢
  refine WL.m (WL.v (run_extract rfl rfl) (WL.v (run_extract rfl rfl) (WL.a (WL.z (W.sr ?_)))))
  refine WL.m (WL.e (eff_call call13 (decode_ok (bs := (encP (pduP c tag sn))) (by omega) h (Gives.ownO (v := .slice a79 (encP (pduP c tag sn)).length (encP (pduP c tag sn)).length)))) ?_)
  rintro _ w hv
  rcases hv with ⟨hn, _⟩ | ⟨_, _, _, a84, c84, rfl, h⟩
  · exact (hn hd1).elim
  rw [hd3] at h ⊢
  rw [hd2] at ⊢
  refine WL.m (WL.v (run_extract rfl rfl) (WL.v (run_extract rfl rfl) (WL.v (run_extract rfl rfl) (WL.e (eff_alloc h zeroValue36 rfl) ?_))))
  rintro _ w ⟨b16, rfl, h⟩
  refine WL.e (eff_storeW (vs := Pd.cells (pduP c tag sn) (.slice a84 (pduP c tag sn).data.length c84)) h sizeOf36 rfl rfl (cells_len hp16) (cells_one rfl) rfl) ?_
  rintro _ w h
  refine WL.a (WL.z (W.sr (WL.f 10 underlying36 rfl sizeOf34 rfl rfl (WL.v (run_cutArr underlying34 sizeOf5 rfl) (WL.e (eff_call call14 (pdec16_ok (bb := b16) (ob := 0 + 10) (cb := 16) hpc h (gives16 h16 (Gives.part (b := b16) (o := 0 + 10) (n := 16) (cells_cdb (dv := (.slice a84 (pduP c tag sn).data.length c84)) hp16) (by rw [cells_len hp16]; decide) (by decide))))) ?_)))))
  rintro _ w ⟨rfl, h⟩
  refine WL.m (WL.v (run_extract rfl rfl) (WL.v (run_extract rfl rfl) (WL.v (run_extract rfl rfl) (WL.e (eff_alloc h zeroValue29 rfl) ?_))))
  rintro _ w ⟨b19, rfl, h⟩
  refine WL.e (eff_alloc h zeroValue44 rfl) ?_
  rintro _ w ⟨b20, rfl, h⟩
  refine WL.e (eff_storeW (vs := [.int .i64 c.kind, .int .i64 c.at_, .int .i64 c.n, .slice none 0 0, .int .u64 0, .int .u64 0, .int .i64 c.typ, .bool false]) h sizeOf29 rfl rfl rfl rfl rfl) ?_
  rintro _ w h
  refine WL.e (eff_storeW (vs := [.int .i64 0, .int .i64 0, .int .i64 0, .slice none 0 0, .int .i64 0]) h sizeOf44 rfl rfl rfl rfl rfl) ?_
  rintro _ w h
  refine WL.z (W.seq (W.sr (WL.m (WL.m (WL.v (run_add rfl rfl (by omega) (by omega)) ?_)))))
  refine WL.m (WL.v (run_add rfl rfl (by omega) (by omega)) (WL.m (WL.v (run_add rfl rfl (by omega) (by omega)) (WL.v (run_neqF rfl rfl (rfl)) (WL.m (WL.m (WL.v (run_not rfl) ?_)))))))
  refine WL.pf (WL.m (WL.m (WL.m (WL.v (run_lenSlice underlying26 rfl) (WL.v (run_neqF rfl rfl (rfl)) (WL.pf (WL.m ?_)))))))
  refine WL.f 4 underlying36 rfl sizeOf24 rfl rfl (WL.l isAgg24 rfl (h.cellB (v := .int .u32 (tag : Int)) rfl) (WL.m (WL.v (run_neqF rfl rfl (rfl)) (WL.pf (WL.m (WL.f 5 underlying36 rfl sizeOf24 rfl rfl (WL.l isAgg24 rfl (h.cellB (v := .int .u32 (sn : Int)) rfl) ?_)))))))
  refine WL.m (WL.v (run_neqF rfl rfl (rfl)) (WL.pf (WL.m (WL.c 0 underlying29 rfl sizeOf3 rfl isAgg3 h rfl (WL.c 0 underlying29 rfl sizeOf3 rfl isAgg3 h rfl ?_)))))
  refine WL.v (run_neqF rfl rfl (rfl)) (WL.pf (WL.m (WL.c 1 underlying29 rfl sizeOf3 rfl isAgg3 h rfl (WL.c 1 underlying29 rfl sizeOf3 rfl isAgg3 h rfl (WL.v (run_neqF rfl rfl (rfl)) ?_)))))
  refine WL.pf (WL.m (WL.c 2 underlying29 rfl sizeOf3 rfl isAgg3 h rfl (WL.c 2 underlying29 rfl sizeOf3 rfl isAgg3 h rfl (WL.v (run_neqF rfl rfl (rfl)) (WL.pf ?_)))))
  refine WL.m (WL.c 6 underlying29 rfl sizeOf3 rfl isAgg3 h rfl (WL.c 6 underlying29 rfl sizeOf3 rfl isAgg3 h rfl (WL.v (run_neqF rfl rfl (rfl)) (WL.pf (WL.nil ?_)))))
  refine W.cs (W.seq (W.sr (WL.c 0 underlying29 rfl sizeOf3 rfl isAgg3 h rfl (WL.v (run_geq rfl rfl) ?_))))
  refine WL.nil ?_
  refine W.condIf rfl (fun c33 => ?_) (fun c33 => ?_)
  ·
   have hed : (pduP c tag sn).data = prB c.key.toNat c.new.toNat := if_pos c33
   rw [hed] at h
   refine W.sr (WL.f 26 underlying36 rfl sizeOf26 rfl rfl (WL.l isAgg26 rfl (h.cellB (cells_data hp16)) (WL.e (eff_call call15 (prdec_ok (k := c.key.toNat) (o := c.new.toNat) (ax := a84) (cx := c84) (by omega) (by omega) h (Gives.ownO (v := .slice a84 (prB c.key.toNat c.new.toNat).length c84)))) ?_)))
   rintro _ w ⟨rfl, h⟩
   refine WL.m (WL.v (run_extract rfl rfl) (WL.v (run_extract rfl rfl) (WL.v (run_extract rfl rfl) (WL.v (run_extract rfl rfl) (WL.e (eff_alloc h zeroValue44 rfl) ?_)))))
   rintro _ w ⟨b24, rfl, h⟩
   refine WL.a (WL.a (WL.e (eff_storeW (vs := [.int .i64 0, .int .i64 0, .int .i64 0, .slice none 0 0, .int .i64 0]) h sizeOf44 rfl rfl rfl rfl rfl) ?_))
   rintro _ w h
   refine WL.z (W.sr (WL.m (WL.m (WL.m (WL.f 4 underlying29 rfl sizeOf27 rfl rfl ?_)))))
   refine WL.l isAgg27 rfl (h.cellB rfl) (WL.v (run_eqlT rfl rfl (hke)) (WL.pt (WL.m (WL.m (WL.c 5 underlying29 rfl sizeOf27 rfl isAgg27 h rfl (WL.v (run_eqlT rfl rfl (hne)) ?_))))))
   refine WL.pt (WL.z (W.ret (bodyQ.r1 (v := .bool _) results3 rfl ?_)))
   exact ⟨rfl, hLx _ h.to⟩
  have hed : (pduP c tag sn).data = c.data := if_neg c33
  rw [hed] at h
  refine W.skip (W.seq ?_)
  refine W.draw Tryz.follows h (fun w h => ?_)
  refine WT.f 0 26 rfl underlying36 rfl sizeOf26 rfl rfl (WT.l 1 rfl isAgg26 rfl (h.cellB (cells_data hp16)) (WT.take 2 (fun w => Bytes (.slice a84 c.data.length c84) (c.data) (hp w)) rfl (by kernel_rfl) rfl rfl (h.cellsO (v := .slice a84 c.data.length c84)) (fun w' hC => run_bytesStr underlying26 underlying5 underlying9 rfl hC) (WT.f 3 3 rfl underlying29 rfl sizeOf26 rfl rfl (WT.l 4 rfl isAgg26 rfl (h.cellB rfl) (WT.take 5 (fun w => Bytes (.slice ad c.data.length cd) (c.data) (hp w)) rfl (by kernel_rfl) rfl rfl (h.reads (Gives.to G1)) (fun w' hC => run_bytesStr underlying26 underlying5 underlying9 rfl hC) (WT.p 6 rfl (fun w' => run_eqlStrT rfl rfl (rfl)) (WT.m 7 rfl ?_)))))))
  refine WT.f 8 3 rfl underlying29 rfl sizeOf26 rfl rfl (WT.l 9 rfl isAgg26 rfl (h.cellB rfl) (WT.p 10 rfl (fun w' => (run_lenSlice underlying26 rfl)) (WT.loadN (vs := qv3) 11 rfl (by kernel_rfl) isAgg29 sizeOf29 rfl rfl (h.rowV (n := 8) rfl) rfl rfl (WT.e 12 [false, true, false, false, false, false] rfl (eff_call call16 (cout_n_ok (kind := c.kind) (at_ := c.at_) (n := c.n) (key := c.key) (new := c.new) (typ := c.typ) (force := c.force) (data := c.data) (ax := ad) (cx := cd) h)) ?_))))
  rintro _ w ⟨rfl, h⟩
  refine ⟨⟨h.cellB rfl, trivial⟩, ?_⟩
  refine WT.p 13 rfl (fun w' => run_eqlT rfl rfl (plain_out hpc c33)) (WT.p 14 rfl (fun w' => (run_pickT rfl)) (WT.a 15 rfl (WT.dn (W.ret (bodyQ.r1 (v := .bool _) results3 rfl ?_)))))
  exact ⟨rfl, hLx _ h.to⟩
 refine WL.m (WL.s (WL.s (WL.s (WL.s (WL.pf (WL.nil (W.cf ?_)))))))
 refine W.exit (W.seq ?_)
 have ek : k = 16 := by omega
 subst ek
 rw [pdk_all hpc] at h
 have hde := decE_enc [] hok
 rw [List.append_nil] at hde
 obtain ⟨hd1, hd2, hd3⟩ := hde
 have hos := open_seal2 (encP (pduP c tag sn))
 obtain ⟨ho1, ho2, ho3⟩ := hos
 refine W.region (WL.v (run_loadB (vs := Pd.cells (pduP c tag sn) (.slice ad2 (dataP c).length cd2)) h isAgg36 sizeOf36 rfl (List.take_of_length_le (Nat.le_of_eq (cells_len hp16))) (cells_len hp16)) (WL.e (eff_call call10 (pencode_ok (p := (pduP c tag sn)) (ad := ad2) (cd := cd2) hok h (Gives.to G2))) ?_))
 rintro _ w ⟨a73, rfl, h⟩
 refine WL.m (WL.v (run_extract rfl rfl) (WL.v (run_extract rfl rfl) (WL.a (WL.z (W.sr ?_)))))
 refine WL.m (WL.e (eff_call call12 (seal_ok (bs := (encP (pduP c tag sn))) h (Gives.ownO (v := .slice a73 (encP (pduP c tag sn)).length (encP (pduP c tag sn)).length)) (by omega))) ?_)
 rintro _ w ⟨a78, rfl, h⟩
 refine WL.e (eff_call call11 (open_ok (bs := sealB (encP (pduP c tag sn))) h (Gives.ownO (v := .slice a78 (sealB (encP (pduP c tag sn))).length (sealB (encP (pduP c tag sn))).length)) (by rw [sealB_len]; omega))) ?_
 rintro _ w hv
 rcases hv with ⟨_, _, a79, rfl, h⟩ | ⟨hn, _⟩
 rotate_left
 · rw [ho1] at hn; exact (hn rfl).elim
 rw [ho2] at h ⊢
 refine WL.m (WL.v (run_extract rfl rfl) (WL.v (run_extract rfl rfl) (WL.a (WL.z (W.sr ?_)))))
 refine WL.m (WL.e (eff_call call13 (decode_ok (bs := (encP (pduP c tag sn))) (by omega) h (Gives.ownO (v := .slice a79 (encP (pduP c tag sn)).length (encP (pduP c tag sn)).length)))) ?_)
 rintro _ w hv
 rcases hv with ⟨hn, _⟩ | ⟨_, _, _, a84, c84, rfl, h⟩
 · exact (hn hd1).elim
 rw [hd3] at h ⊢
 rw [hd2] at ⊢
 refine WL.m (WL.v (run_extract rfl rfl) (WL.v (run_extract rfl rfl) (WL.v (run_extract rfl rfl) (WL.e (eff_alloc h zeroValue36 rfl) ?_))))
 rintro _ w ⟨b16, rfl, h⟩
 refine WL.e (eff_storeW (vs := Pd.cells (pduP c tag sn) (.slice a84 (pduP c tag sn).data.length c84)) h sizeOf36 rfl rfl (cells_len hp16) (cells_one rfl) rfl) ?_
 rintro _ w h
 refine WL.a (WL.z (W.sr (WL.f 10 underlying36 rfl sizeOf34 rfl rfl (WL.v (run_cutArr underlying34 sizeOf5 rfl) (WL.e (eff_call call14 (pdec16_ok (bb := b16) (ob := 0 + 10) (cb := 16) hpc h (gives16 h16 (Gives.part (b := b16) (o := 0 + 10) (n := 16) (cells_cdb (dv := (.slice a84 (pduP c tag sn).data.length c84)) hp16) (by rw [cells_len hp16]; decide) (by decide))))) ?_)))))
 rintro _ w ⟨rfl, h⟩
 refine WL.m (WL.v (run_extract rfl rfl) (WL.v (run_extract rfl rfl) (WL.v (run_extract rfl rfl) (WL.e (eff_alloc h zeroValue29 rfl) ?_))))
 rintro _ w ⟨b19, rfl, h⟩
 refine WL.e (eff_alloc h zeroValue44 rfl) ?_
 rintro _ w ⟨b20, rfl, h⟩
 refine WL.e (eff_storeW (vs := [.int .i64 c.kind, .int .i64 c.at_, .int .i64 c.n, .slice none 0 0, .int .u64 0, .int .u64 0, .int .i64 c.typ, .bool false]) h sizeOf29 rfl rfl rfl rfl rfl) ?_
 rintro _ w h
 refine WL.e (eff_storeW (vs := [.int .i64 0, .int .i64 0, .int .i64 0, .slice none 0 0, .int .i64 0]) h sizeOf44 rfl rfl rfl rfl rfl) ?_
 rintro _ w h
 refine WL.z (W.seq (W.sr (WL.m (WL.m (WL.v (run_add rfl rfl (by omega) (by omega)) ?_)))))
 refine WL.m (WL.v (run_add rfl rfl (by omega) (by omega)) (WL.m (WL.v (run_add rfl rfl (by omega) (by omega)) (WL.v (run_neqF rfl rfl (rfl)) (WL.m (WL.m (WL.v (run_not rfl) ?_)))))))
 refine WL.pf (WL.m (WL.m (WL.m (WL.v (run_lenSlice underlying26 rfl) (WL.v (run_neqF rfl rfl (rfl)) (WL.pf (WL.m ?_)))))))
 refine WL.f 4 underlying36 rfl sizeOf24 rfl rfl (WL.l isAgg24 rfl (h.cellB (v := .int .u32 (tag : Int)) rfl) (WL.m (WL.v (run_neqF rfl rfl (rfl)) (WL.pf (WL.m (WL.f 5 underlying36 rfl sizeOf24 rfl rfl (WL.l isAgg24 rfl (h.cellB (v := .int .u32 (sn : Int)) rfl) ?_)))))))
 refine WL.m (WL.v (run_neqF rfl rfl (rfl)) (WL.pf (WL.m (WL.c 0 underlying29 rfl sizeOf3 rfl isAgg3 h rfl (WL.c 0 underlying29 rfl sizeOf3 rfl isAgg3 h rfl ?_)))))
 refine WL.v (run_neqF rfl rfl (rfl)) (WL.pf (WL.m (WL.c 1 underlying29 rfl sizeOf3 rfl isAgg3 h rfl (WL.c 1 underlying29 rfl sizeOf3 rfl isAgg3 h rfl (WL.v (run_neqF rfl rfl (rfl)) ?_)))))
 refine WL.pf (WL.m (WL.c 2 underlying29 rfl sizeOf3 rfl isAgg3 h rfl (WL.c 2 underlying29 rfl sizeOf3 rfl isAgg3 h rfl (WL.v (run_neqF rfl rfl (rfl)) (WL.pf ?_)))))
 refine WL.m (WL.c 6 underlying29 rfl sizeOf3 rfl isAgg3 h rfl (WL.c 6 underlying29 rfl sizeOf3 rfl isAgg3 h rfl (WL.v (run_neqF rfl rfl (rfl)) (WL.pf (WL.nil ?_)))))
 refine W.cs (W.seq (W.sr (WL.c 0 underlying29 rfl sizeOf3 rfl isAgg3 h rfl (WL.v (run_geq rfl rfl) ?_))))
 refine WL.nil ?_
 refine W.condIf rfl (fun c33 => ?_) (fun c33 => ?_)
 ·
  have hed : (pduP c tag sn).data = prB c.key.toNat c.new.toNat := if_pos c33
  rw [hed] at h
  refine W.sr (WL.f 26 underlying36 rfl sizeOf26 rfl rfl (WL.l isAgg26 rfl (h.cellB (cells_data hp16)) (WL.e (eff_call call15 (prdec_ok (k := c.key.toNat) (o := c.new.toNat) (ax := a84) (cx := c84) (by omega) (by omega) h (Gives.ownO (v := .slice a84 (prB c.key.toNat c.new.toNat).length c84)))) ?_)))
  rintro _ w ⟨rfl, h⟩
  refine WL.m (WL.v (run_extract rfl rfl) (WL.v (run_extract rfl rfl) (WL.v (run_extract rfl rfl) (WL.v (run_extract rfl rfl) (WL.e (eff_alloc h zeroValue44 rfl) ?_)))))
  rintro _ w ⟨b24, rfl, h⟩
  refine WL.a (WL.a (WL.e (eff_storeW (vs := [.int .i64 0, .int .i64 0, .int .i64 0, .slice none 0 0, .int .i64 0]) h sizeOf44 rfl rfl rfl rfl rfl) ?_))
  rintro _ w h
  refine WL.z (W.sr (WL.m (WL.m (WL.m (WL.f 4 underlying29 rfl sizeOf27 rfl rfl ?_)))))
  refine WL.l isAgg27 rfl (h.cellB rfl) (WL.v (run_eqlT rfl rfl (hke)) (WL.pt (WL.m (WL.m (WL.c 5 underlying29 rfl sizeOf27 rfl isAgg27 h rfl (WL.v (run_eqlT rfl rfl (hne)) ?_))))))
  refine WL.pt (WL.z (W.ret (bodyQ.r1 (v := .bool _) results3 rfl ?_)))
  exact ⟨rfl, hLx _ h.to⟩
 have hed : (pduP c tag sn).data = c.data := if_neg c33
 rw [hed] at h
 refine W.skip (W.seq ?_)
 refine W.draw Tryz.follows h (fun w h => ?_)
 refine WT.f 0 26 rfl underlying36 rfl sizeOf26 rfl rfl (WT.l 1 rfl isAgg26 rfl (h.cellB (cells_data hp16)) (WT.take 2 (fun w => Bytes (.slice a84 c.data.length c84) (c.data) (hp w)) rfl (by kernel_rfl) rfl rfl (h.cellsO (v := .slice a84 c.data.length c84)) (fun w' hC => run_bytesStr underlying26 underlying5 underlying9 rfl hC) (WT.f 3 3 rfl underlying29 rfl sizeOf26 rfl rfl (WT.l 4 rfl isAgg26 rfl (h.cellB rfl) (WT.take 5 (fun w => Bytes (.slice ad c.data.length cd) (c.data) (hp w)) rfl (by kernel_rfl) rfl rfl (h.reads (Gives.to G1)) (fun w' hC => run_bytesStr underlying26 underlying5 underlying9 rfl hC) (WT.p 6 rfl (fun w' => run_eqlStrT rfl rfl (rfl)) (WT.m 7 rfl ?_)))))))
 refine WT.f 8 3 rfl underlying29 rfl sizeOf26 rfl rfl (WT.l 9 rfl isAgg26 rfl (h.cellB rfl) (WT.p 10 rfl (fun w' => (run_lenSlice underlying26 rfl)) (WT.loadN (vs := qv3) 11 rfl (by kernel_rfl) isAgg29 sizeOf29 rfl rfl (h.rowV (n := 8) rfl) rfl rfl (WT.e 12 [false, true, false, false, false, false] rfl (eff_call call16 (cout_n_ok (kind := c.kind) (at_ := c.at_) (n := c.n) (key := c.key) (new := c.new) (typ := c.typ) (force := c.force) (data := c.data) (ax := ad) (cx := cd) h)) ?_))))
 rintro _ w ⟨rfl, h⟩
 refine ⟨⟨h.cellB rfl, trivial⟩, ?_⟩
 refine WT.p 13 rfl (fun w' => run_eqlT rfl rfl (plain_out hpc c33)) (WT.p 14 rfl (fun w' => (run_pickT rfl)) (WT.a 15 rfl (WT.dn (W.ret (bodyQ.r1 (v := .bool _) results3 rfl ?_)))))
 exact ⟨rfl, hLx _ h.to⟩
end Go.Proofs.YtjfmjbmkkpkppaaGreatDoor
namespace Go.Sl.UnM
open Go Go.Sl Go.Sl.BitM Go.Sl.SpM Go.Sl.RsM Go.Sl.ByM
structure CmX where
 kind : Int
 at_ : Int
 n : Int
 ax : Option Addr
 ac : Nat
 bs : List UInt8
 key : Int
 new : Int
 typ : Int
 force : Bool
end Go.Sl.UnM
namespace Go.Proofs.YtjfmjbmkkpkppaaGreatDoor
open Go Go.Sl Go.ChangeShapes Go.WideShapes Go.ChangeAt Go.RowKit
theorem returnsLaidShaped {H : Type} {enc : TypeId × Value → H} {a : Assume} {C : Checked} {os : Os} {f : FuncId} {fn : Func} {s : ChangeSpec} {conds : List PathCond} {apart fresh handsOn again : Bool} {X : World → Array Value → Prop}
   (hX : ∀ (w w' : World) (args : Array Value), w.heap = w'.heap → X w args → X w' args)
   (own : ownKnob C.prog.godebug = none) (started : os.Started) (noInit : C.prog.inits.idxOf? f = none) (hfn : C.prog.funcs[f]? = some fn)
   (witness : ∃ (w : World) (tape : Tape) (i : Input), w.os = os ∧ (w.forCall tape i).Shaped C.prog ∧ i.vars = [] ∧ Input.okWide C.prog (w.forCall tape i) .any w.heap.size f i ∧
     ((s.pre enc C.prog fn conds apart (w.forCall tape i).memory i.args ∧ X (w.forCall tape i).memory i.args) ∧ sizedMet enc C.prog fn (OpenSpec.ofChange s) apart (w.forCall tape i).memory i.args) ∧ a.holds C.prog (lone (Frame.enter C.prog f i.args .normal) [] (w.forCall tape i)))
   (contract : ∀ (W : World) (base : Nat) (args : Array Value) (ds gs : List (DataW H)) (before : List MemPlace),
     (∀ (j : Nat) t v, fn.params[j]? = some t → args[j]? = some v → Value.okWide C.prog W .any base t v) →
     DataW.Whole enc C.prog fn.params.toList s.vars apart W args.toList ds gs before →
     X W args → W.ShapedOpen C.prog →
     Calls C.prog f args W fun e W' => ∃ v, e = .returned v ∧ s.post enc C.prog fn apart fresh handsOn again W args v W') :
   ReturnsInHanded a C os f .any (fun w args => (s.pre enc C.prog fn conds apart w args ∧ X w args) ∧ sizedMet enc C.prog fn (OpenSpec.ofChange s) apart w args) (s.post enc C.prog fn apart fresh handsOn again) := by
 refine returnsInHanded_of_calls own started noInit witness ?_
 intro w tape i _ hsh _ hok hpre hholds
 obtain ⟨_, _, _, fn', hfn', _, _, _, _, hval⟩ := hok
 have e : fn' = fn := Option.some.inj (hfn'.symm.trans hfn)
 subst e
 obtain ⟨⟨⟨ds, gs, before, hw, _⟩, hx⟩, _⟩ := hpre
 have hw' := DataW.Whole.of_heap (w' := w.forCall tape i) (by rfl) hw
 refine (contract (w.forCall tape i) w.heap.size i.args ds gs before hval hw' (hX _ _ _ (by rfl) hx) hsh).mono fun e W' ⟨v, he, hp⟩ => ?_
 subst he
 exact ChangeSpec.post_blind hp
noncomputable def laidL : List (String × DataW Unit) := [("math/bits.deBruijn32tab", Rows.laid_math_bits_deBruijn32tab), ("math/bits.deBruijn64tab", Rows.laid_math_bits_deBruijn64tab), ("internal/strconv.uint64pow10", Rows.laid_internal_strconv_uint64pow10), ("unicode/utf8.acceptRanges", Rows.laid_unicode_utf8_acceptRanges), ("strconv.ErrRange", Rows.laid_strconv_ErrRange), ("strconv.ErrSyntax", Rows.laid_strconv_ErrSyntax), ("unicode/utf8.first", Rows.laid_unicode_utf8_first)]
theorem laid_none : (laidL.all fun x => x.2.handleName?.isNone) = true := by kernel_rfl
theorem pow_data : (Rows.laid_internal_strconv_uint64pow10 : DataW Unit) = .agg (Lib.pow10Tab.map fun z => .lit (.int .u64 z)) := by kernel_rfl
theorem pow_cells {W : World} (h : laidMetH Tryz.prog laidL W) : ∃ e fr, W.heap[1]? = some (.cells (Lib.pow10Tab.map fun z => Value.int .u64 z).toArray e fr) := by
 rw [MakeChecks.laidMetH_plain _ _ _ laid_none] at h
 obtain ⟨ps, hv, _, _⟩ := h
 obtain ⟨_, _, _, _, _, _, _, _, _, _, hv, _⟩ := hv
 obtain ⟨_, _, _, _, _, _, _, _, _, _, hv, _⟩ := hv
 obtain ⟨g, t, cs, fuel, p, q, hg, ht, hv, hd, _, _⟩ := hv
 obtain rfl := Option.some.inj ((show Tryz.prog.globalNamed "internal/strconv.uint64pow10" = some 1 by kernel_rfl).symm.trans hg)
 obtain rfl := Option.some.inj ((show (Tryz.prog.globals[1]?).map (·.type) = some 284 by kernel_rfl).symm.trans ht)
 obtain ⟨xs, m, _, ex, hcl, hl, hel⟩ := DataW.trod_array Tryz.underlying284 hd
 have c5 : Tryz.prog.cellsOf 27 = 1 := by kernel_rfl
 have c20 : Tryz.prog.cellsOf 284 = 20 := by kernel_rfl
 rw [c20] at hcl
 rw [pow_data] at ex
 have e3 : (xs.map (·.1)) = Lib.pow10Tab.map fun n => .lit (.int .u64 n) := (DataW.agg.inj (Prod.mk.inj ex).1).symm
 have hcs : cs.toList = Lib.pow10Tab.map fun z => Value.int .u64 z := by
   apply List.ext_getElem?
   intro r
   by_cases hr : r < 20
   · have hE := hel r hr
     rw [c5, Nat.mul_one, List.getElem?_eq_getElem (by omega)] at hE
     obtain ⟨z, e1, e2, _⟩ := DataW.trod_int Tryz.underlying27 hE
     have e4 : (xs.map (·.1))[r]? = (Lib.pow10Tab.map fun n => (DataW.lit (.int .u64 n) : DataW Unit))[r]? := by rw [e3]
     have hpl := Lib.pow10Tab_length
     rw [List.getElem?_map, List.getElem?_map, List.getElem?_eq_getElem (by omega : r < xs.length), List.getElem?_eq_getElem (by omega : r < Lib.pow10Tab.length), e2] at e4
     simp only [Option.map_some, Option.some.injEq, DataW.lit.injEq, Lit.int.injEq, true_and] at e4
     have h0 : ((cs.toList.drop r).take 1)[0]? = some (.int .u64 z) := by rw [e1]; rfl
     have h1 : cs.toList[r]? = some (.int .u64 z) := by simpa using h0
     rw [h1, List.getElem?_map, List.getElem?_eq_getElem (by omega : r < Lib.pow10Tab.length), Option.map_some, e4]
   rw [List.getElem?_eq_none (by omega), List.getElem?_eq_none (by rw [List.length_map, Lib.pow10Tab_length]; omega)]
 have hcs2 : cs = (Lib.pow10Tab.map fun z => Value.int .u64 z).toArray := by rw [← hcs]
 subst hcs2
 unfold World.var? at hv
 rw [hg] at hv
 simp only [Option.bind_some] at hv
 split at hv
 · rename_i e fr hh
   cases hv
   exact ⟨_, _, hh⟩
 cases hv
theorem glp_of {W : World} (hS : W.ShapedOpen Tryz.prog) (h : laidMetH Tryz.prog laidL W) : ∃ m, Gives [old W] (GlP m) := by
 obtain ⟨e1, fr1, h1⟩ := pow_cells h
 have hz : ((begin Tryz.prog (fun _ _ => 0) default).world.heap[0]?).bind Obj.row? = some (#[.int .i64 0], 3) := by kernel_rfl
 obtain ⟨m, hm⟩ := cell_of_shapedOpen_int (k := .i64) hS (g := 0) (of_decide_eq_true (by kernel_rfl)) hz rfl (by kernel_rfl) (by kernel_rfl) Tryz.underlying3
 obtain ⟨cs, hh, hs, _⟩ := hS.1 0 _ _ (of_decide_eq_true (by kernel_rfl)) hz
 have hcs : cs = #[.int .i64 m] := by
   have h0 : cs[0]? = some (.int .i64 m) := by simpa [World.cell?, hh] using hm
   have hs1 : cs.size = 1 := hs
   apply Array.ext
   · rw [hs1]; rfl
   intro i hi1 hi2
   have : i = 0 := by omega
   subst this
   simpa [Array.getElem?_eq_getElem hi1] using h0
 subst hcs
 have l0 : 0 < W.heap.size := (Array.getElem?_eq_some_iff.1 hh).1
 have l1 : 1 < W.heap.size := (Array.getElem?_eq_some_iff.1 h1).1
 refine ⟨m, fun hp_ H => ?_⟩
 obtain ⟨hh1, s, ho⟩ := H.fact
 refine ⟨⟨_, _, s _ _ ((ho 0 l0).trans hh)⟩, ⟨e1, fr1, s _ _ ((ho 1 l1).trans h1)⟩⟩
end Go.Proofs.YtjfmjbmkkpkppaaGreatDoor
