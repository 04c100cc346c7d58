/-
  A unit: sense: the contracts. Lines of walks printed by a program of the prover's.
-/
import Derived.Test.YtdpakoefdpmebaaGreatUnit1
namespace Go.Proofs.YtdpakoefdpmebaaGreat
open Go Go.Sl Go.Sl.BitM Go.Sl.SpM Go.Sl.RsM Go.Sl.ByM Go.Sl.UnM
set_option linter.unusedVariables false
set_option linter.unusedSimpArgs false
set_option maxHeartbeats 1000000
set_option maxRecDepth 8000
variable {W0 w : World} {L F : List HProp}

theorem laid_ok {ax : Option Addr} {n cx : Nat} (h : On W0 L w) : Calls Tryz.prog 86 #[.slice ax n cx] w (Ret fun v w' => ∃ bx, v = .func (.func 132) #[] #[.pointer (some ⟨bx, 0, none⟩)] ∧ On W0 (blk bx [.slice ax n cx] 22 :: L) w') := by
  refine enter Tryz.func86 rfl Tryz.ntmps86 rfl (W.seq (W.region (WL.eff (eff_box (v := .slice _ _ _) (l := [.slice _ _ _]) h rfl rfl) rfl rfl ?_)))
  rintro _ w ⟨b1, rfl, h⟩
  refine WL.val run_assign rfl rfl (WL.nil (W.seq (W.region (WL.val run_makeFunc rfl rfl (WL.val run_assign rfl rfl (WL.nil (W.ret ?_)))))))
  refine bodyQ.r1  Tryz.results86 rfl ?_
  exact ⟨_, rfl, h⟩

theorem inquiry_ok (h : On W0 L w) : Calls Tryz.prog 90 #[] w (Ret fun v w' => ∃ a, v = .slice a inqB.length inqB.length ∧ On W0 (OwnB (.slice a inqB.length inqB.length) inqB :: L) w') := by
  refine enter Tryz.func90 rfl Tryz.ntmps90 rfl ?_
  have hmx := maxLen_eq
  refine W.seq (W.region (WL.val run_assign rfl rfl (WL.nil (W.seq (W.region (WL.eff (eff_make (n := 36) (bytes := 1) h rfl rfl Tryz.underlying22 rfl rfl rfl rfl rfl (by omega) (by omega)) rfl rfl ?_))))))
  rintro _ w ⟨b3, rfl, h⟩
  have h : On W0 (Own 1 (.slice (some ⟨b3, 0, none⟩) 36 36) 36 (bytesV (List.replicate 36 (0 : UInt8))) :: _) w := h
  refine WL.val run_assign rfl rfl (WL.nil (W.seq (W.region (WL.val run_move rfl rfl (WL.eff (eff_call Tryz.call86 (laid_ok (ax := some ⟨b3, 0, none⟩) (n := 36) (cx := 36) h)) rfl rfl ?_)))))
  rintro _ w ⟨bx, rfl, h⟩
  refine WL.val run_assign rfl rfl (WL.nil (W.seq (W.region (WL.val run_move rfl rfl (WL.eff (eff_mkSlice (zl := [.int .u8 0, .int .u8 0, .int .u8 0]) (out := [.int .u8 _, .int .u8 _, .int .u8 _]) h Tryz.underlying22 Tryz.sizeOf5 Tryz.zeroValue5 (by decide) (by kernel_rfl) rfl rfl (by simp) (⟨⟨_, _, rfl, rfl, by decide⟩, ⟨⟨_, _, rfl, rfl, by decide⟩, ⟨⟨_, _, rfl, rfl, by decide⟩, trivial⟩⟩⟩) rfl rfl (by simp [maxLen])) rfl rfl ?_)))))
  rintro _ w ⟨b7, rfl, h⟩
  refine WL.eff (eff_call2C (v1 := .int .i64 ((2 : Nat) : Int)) (v2 := .slice (some ⟨b7, 0, none⟩) 3 3) rfl Tryz.call132 rfl rfl (laid1_ok (bx := bx) (bo := b3) (n := 36) (k := 3) (at_ := 2) (ay := (some ⟨b7, 0, none⟩)) (cy := 3) (xs := (List.replicate 36 (0 : UInt8))) (ys := [5, 2, 31]) (by decide) (by first | rfl | exact be_length ..) (by decide) (by decide) ((h.fetch (Own 1 (.slice (some ⟨b3, 0, none⟩) 36 36) 36 (bytesV (List.replicate 36 (0 : UInt8))))).fetch (blk bx [.slice (some ⟨b3, 0, none⟩) 36 36] 22)) (Gives.ownO (v := .slice (some ⟨b7, 0, none⟩) ([5, 2, 31]).length 3)))) rfl rfl ?_
  rintro _ w h
  refine WL.nil (W.seq (W.region (WL.val run_move rfl rfl ?_)))
  refine WL.eff (eff_mkRow (out := [.int .u8 _, .int .u8 _, .int .u8 _, .int .u8 _, .int .u8 _, .int .u8 _, .int .u8 _, .int .u8 _, .int .u8 _, .int .u8 _, .int .u8 _, .int .u8 _, .int .u8 _, .int .u8 _, .int .u8 _, .int .u8 _, .int .u8 _, .int .u8 _, .int .u8 _, .int .u8 _, .int .u8 _, .int .u8 _, .int .u8 _, .int .u8 _, .int .u8 _, .int .u8 _, .int .u8 _, .int .u8 _]) h Tryz.underlying22 Tryz.sizeOf5 Tryz.zeroValue5 rfl (by decide) rfl rfl rfl) rfl rfl ?_
  rintro _ w ⟨b10, rfl, h⟩
  refine WL.eff (eff_ofString h rfl (by omega) Tryz.underlying22 Tryz.underlying5) rfl rfl ?_
  rintro _ w ⟨rfl, h⟩
  refine WL.eff (eff_call2C (v1 := .int .i64 ((8 : Nat) : Int)) (v2 := .slice (some ⟨b10, 0, none⟩) 28 28) rfl Tryz.call132 rfl rfl (laid1_ok (bx := bx) (bo := b3) (n := 36) (k := 28) (at_ := 8) (ay := (some ⟨b10, 0, none⟩)) (cy := 28) (xs := (over (List.replicate 36 (0 : UInt8)) 2 [5, 2, 31])) (ys := [71, 69, 77, 69, 76, 32, 32, 32, 84, 87, 73, 78, 32, 68, 73, 83, 75, 32, 32, 32, 32, 32, 32, 32, 48, 48, 48, 49]) (by decide) (by first | rfl | exact be_length ..) (by decide) (by decide) ((h.fetch (Own 1 (.slice (some ⟨b3, 0, none⟩) 36 36) 36 (bytesV (over (List.replicate 36 (0 : UInt8)) 2 [5, 2, 31])))).fetch (blk bx [.slice (some ⟨b3, 0, none⟩) 36 36] 22)) (Gives.ownO (v := .slice (some ⟨b10, 0, none⟩) ([71, 69, 77, 69, 76, 32, 32, 32, 84, 87, 73, 78, 32, 68, 73, 83, 75, 32, 32, 32, 32, 32, 32, 32, 48, 48, 48, 49]).length 28)))) rfl rfl ?_
  rintro _ w h
  refine WL.nil (W.seq (W.region (WL.val run_move rfl rfl (WL.val run_assign rfl rfl (WL.nil (W.ret (bodyQ.r1 (v := .slice _ _ _) Tryz.results90 rfl ?_)))))))
  have h : On W0 (blk bx _ _ :: OwnB (.slice (some ⟨b3, 0, none⟩) inqB.length inqB.length) inqB :: _) w := h
  exact ⟨_, rfl, h.to⟩

theorem senc_ok {s : Int} {k c : Nat} (hk : k < 16) (hc : c < 65536) (h : On W0 L w) : Calls Tryz.prog 39 #[(plain s (k : Int) (c : Int)).val (.slice none 0 0)] w (Ret fun v w' => ∃ a, v = .slice a (senseB k c).length (senseB k c).length ∧ On W0 (OwnB (.slice a (senseB k c).length (senseB k c).length) (senseB k c) :: L) w') := by
  refine enter Tryz.func39 rfl Tryz.ntmps39 rfl ?_
  have hmx := maxLen_eq
  refine W.seq (W.region (WL.eff (eff_box (v := .agg _) (l := (plain s (k : Int) (c : Int)).cells (.slice none 0 0)) h rfl rfl) rfl rfl ?_))
  rintro _ w ⟨b1, rfl, h⟩
  have h : On W0 (blk b1 [.int .i64 s, .int .i64 (k : Int), .int .i64 (c : Int), .slice none 0 0, .int .i64 0] 36 :: _) w := h
  refine WL.val run_assign rfl rfl (WL.nil (W.seq (W.region (WL.eff (eff_make (n := 18) (bytes := 1) h rfl rfl Tryz.underlying22 rfl rfl rfl rfl rfl (by omega) (by omega)) rfl rfl ?_))))
  rintro _ w ⟨b6, rfl, h⟩
  have h : On W0 (Own 1 (.slice (some ⟨b6, 0, none⟩) 18 18) 18 (bytesV (List.replicate 18 (0 : UInt8))) :: _) w := h
  refine WL.val run_assign rfl rfl (WL.nil (W.seq (W.region (WL.val run_move rfl rfl (WL.eff (eff_call Tryz.call86 (laid_ok (ax := some ⟨b6, 0, none⟩) (n := 18) (cx := 18) h)) rfl rfl ?_)))))
  rintro _ w ⟨bx, rfl, h⟩
  refine WL.val run_assign rfl rfl (WL.nil (W.seq (W.region (WL.val run_assign rfl rfl (WL.nil (W.seq (W.seq ?_)))))))
  refine W.region (WL.val (run_fieldAddr 4 Tryz.underlying36 rfl Tryz.sizeOf3 rfl rfl) rfl rfl (WL.val (run_load1 Tryz.isAgg3 rfl (h.cellB rfl)) rfl rfl (WL.val (run_convInt Tryz.underlying3 Tryz.underlying126 rfl) rfl rfl (WL.val (run_neqF rfl rfl (by decide)) rfl rfl (WL.nil (W.condF rfl (W.skip ?_)))))))
  refine W.seq (W.region (WL.val run_move rfl rfl (WL.val run_move rfl rfl (WL.eff (eff_mkSlice (zl := [.int .u8 0]) (out := [.int .u8 _]) h Tryz.underlying22 Tryz.sizeOf5 Tryz.zeroValue5 (by decide) (by kernel_rfl) rfl rfl (by simp) (⟨⟨_, _, rfl, rfl, by decide⟩, trivial⟩) rfl rfl (by simp [maxLen])) rfl rfl ?_))))
  rintro _ w ⟨b17, rfl, h⟩
  refine WL.eff (eff_call2C (v1 := .int .i64 ((0 : Nat) : Int)) (v2 := .slice (some ⟨b17, 0, none⟩) 1 1) rfl Tryz.call132 rfl rfl (laid1_ok (bx := bx) (bo := b6) (n := 18) (k := 1) (at_ := 0) (ay := (some ⟨b17, 0, none⟩)) (cy := 1) (xs := (List.replicate 18 (0 : UInt8))) (ys := [112]) (by decide) (by first | rfl | exact be_length ..) (by decide) (by decide) ((h.fetch (Own 1 (.slice (some ⟨b6, 0, none⟩) 18 18) 18 (bytesV (List.replicate 18 (0 : UInt8))))).fetch (blk bx [.slice (some ⟨b6, 0, none⟩) 18 18] 22)) (Gives.ownO (v := .slice (some ⟨b17, 0, none⟩) ([112]).length 1)))) rfl rfl ?_
  rintro _ w h
  refine WL.nil (W.seq (W.region (WL.val run_move rfl rfl (WL.val (run_fieldAddr 1 Tryz.underlying36 rfl Tryz.sizeOf3 rfl rfl) rfl rfl (WL.val (run_load1 Tryz.isAgg3 rfl (h.cellB rfl)) rfl rfl (WL.val (run_andN (k := .i64) (m := k) (n := 15) rfl rfl (by show _ ≤ (9223372036854775807 : Int); omega) (by decide)) rfl rfl (WL.val (run_convByte Tryz.underlying3 Tryz.underlying5 rfl) rfl rfl ?_)))))))
  refine WL.eff (eff_mkSlice (zl := [.int .u8 0]) (out := [.int .u8 (((UInt8.ofNat (k &&& 15)).toNat : Nat) : Int)]) h Tryz.underlying22 Tryz.sizeOf5 Tryz.zeroValue5 (by decide) (by kernel_rfl) rfl rfl (by simp) (⟨⟨_, _, rfl, rfl, by decide⟩, trivial⟩) rfl rfl (by simp [maxLen])) rfl rfl ?_
  rintro _ w ⟨b24, rfl, h⟩
  rw [show k &&& 15 = k by rw [show (15 : Nat) = 2 ^ 4 - 1 from rfl, Nat.and_two_pow_sub_one_eq_mod]; omega] at h
  have h : On W0 (Own 1 (.slice (some ⟨b24, 0, none⟩) ([UInt8.ofNat k] : List UInt8).length 1) 1 (bytesV [UInt8.ofNat k]) :: _) w := h
  refine WL.eff (eff_call2C (v1 := .int .i64 ((2 : Nat) : Int)) (v2 := .slice (some ⟨b24, 0, none⟩) 1 1) rfl Tryz.call132 rfl rfl (laid1_ok (bx := bx) (bo := b6) (n := 18) (k := 1) (at_ := 2) (ay := (some ⟨b24, 0, none⟩)) (cy := 1) (xs := (over (List.replicate 18 (0 : UInt8)) 0 [112])) (ys := [UInt8.ofNat k]) (by decide) (by first | rfl | exact be_length ..) (by decide) (by decide) ((h.fetch (Own 1 (.slice (some ⟨b6, 0, none⟩) 18 18) 18 (bytesV (over (List.replicate 18 (0 : UInt8)) 0 [112])))).fetch (blk bx [.slice (some ⟨b6, 0, none⟩) 18 18] 22)) (Gives.ownO (v := .slice (some ⟨b24, 0, none⟩) ([UInt8.ofNat k]).length 1)))) rfl rfl ?_
  rintro _ w h
  refine WL.nil (W.seq (W.region (WL.val run_move rfl rfl (WL.val (run_fieldAddr 4 Tryz.underlying36 rfl Tryz.sizeOf3 rfl rfl) rfl rfl (WL.val (run_load1 Tryz.isAgg3 rfl (h.cellB rfl)) rfl rfl (WL.val (run_convIn Tryz.underlying3 Tryz.underlying23 rfl (by decide) (by decide)) rfl rfl (WL.eff (eff_call Tryz.call87 (bput_ok (ax := none) (cx := 0) (bs := []) (v := 0) (n := 4) h Gives.nilB (by decide) (by decide) (by omega) (by decide))) rfl rfl ?_)))))))
  rintro _ w ⟨a30, rfl, h⟩
  have h : On W0 (OwnB (.slice a30 (be 0 4).length 4) (be 0 4) :: _) w := h
  refine WL.eff (eff_call2C (v1 := .int .i64 ((3 : Nat) : Int)) (v2 := .slice a30 4 4) rfl Tryz.call132 rfl rfl (laid1_ok (bx := bx) (bo := b6) (n := 18) (k := 4) (at_ := 3) (ay := a30) (cy := 4) (xs := (over (over (List.replicate 18 (0 : UInt8)) 0 [112]) 2 [UInt8.ofNat k])) (ys := (be 0 4)) (by decide) (by first | rfl | exact be_length ..) (by decide) (by decide) ((h.fetch (Own 1 (.slice (some ⟨b6, 0, none⟩) 18 18) 18 (bytesV (over (over (List.replicate 18 (0 : UInt8)) 0 [112]) 2 [UInt8.ofNat k])))).fetch (blk bx [.slice (some ⟨b6, 0, none⟩) 18 18] 22)) (Gives.ownO (v := .slice a30 ((be 0 4)).length 4)))) rfl rfl ?_
  rintro _ w h
  refine WL.nil (W.seq (W.region (WL.val run_move rfl rfl (WL.eff (eff_mkSlice (zl := [.int .u8 0]) (out := [.int .u8 _]) h Tryz.underlying22 Tryz.sizeOf5 Tryz.zeroValue5 (by decide) (by kernel_rfl) rfl rfl (by simp) (⟨⟨_, _, rfl, rfl, by decide⟩, trivial⟩) rfl rfl (by simp [maxLen])) rfl rfl ?_))))
  rintro _ w ⟨b33, rfl, h⟩
  refine WL.eff (eff_call2C (v1 := .int .i64 ((7 : Nat) : Int)) (v2 := .slice (some ⟨b33, 0, none⟩) 1 1) rfl Tryz.call132 rfl rfl (laid1_ok (bx := bx) (bo := b6) (n := 18) (k := 1) (at_ := 7) (ay := (some ⟨b33, 0, none⟩)) (cy := 1) (xs := (over (over (over (List.replicate 18 (0 : UInt8)) 0 [112]) 2 [UInt8.ofNat k]) 3 (be 0 4))) (ys := [10]) (by decide) (by first | rfl | exact be_length ..) (by decide) (by decide) ((h.fetch (Own 1 (.slice (some ⟨b6, 0, none⟩) 18 18) 18 (bytesV (over (over (over (List.replicate 18 (0 : UInt8)) 0 [112]) 2 [UInt8.ofNat k]) 3 (be 0 4))))).fetch (blk bx [.slice (some ⟨b6, 0, none⟩) 18 18] 22)) (Gives.ownO (v := .slice (some ⟨b33, 0, none⟩) ([10]).length 1)))) rfl rfl ?_
  rintro _ w h
  refine WL.nil (W.seq (W.region (WL.val run_move rfl rfl (WL.val (run_fieldAddr 2 Tryz.underlying36 rfl Tryz.sizeOf3 rfl rfl) rfl rfl (WL.val (run_load1 Tryz.isAgg3 rfl (h.cellB rfl)) rfl rfl (WL.val (run_convIn Tryz.underlying3 Tryz.underlying23 rfl (by show (0 : Int) ≤ _; omega) (by show _ ≤ (18446744073709551615 : Int); omega)) rfl rfl (WL.eff (eff_call Tryz.call87 (bput_ok (ax := none) (cx := 0) (bs := []) (v := c) (n := 2) h Gives.nilB (by decide) (by decide) (by omega) (by decide))) rfl rfl ?_)))))))
  rintro _ w ⟨a39, rfl, h⟩
  have h : On W0 (OwnB (.slice a39 (be c 2).length 2) (be c 2) :: _) w := h
  refine WL.eff (eff_call2C (v1 := .int .i64 ((12 : Nat) : Int)) (v2 := .slice a39 2 2) rfl Tryz.call132 rfl rfl (laid1_ok (bx := bx) (bo := b6) (n := 18) (k := 2) (at_ := 12) (ay := a39) (cy := 2) (xs := (over (over (over (over (List.replicate 18 (0 : UInt8)) 0 [112]) 2 [UInt8.ofNat k]) 3 (be 0 4)) 7 [10])) (ys := (be c 2)) (by decide) (by first | rfl | exact be_length ..) (by decide) (by decide) ((h.fetch (Own 1 (.slice (some ⟨b6, 0, none⟩) 18 18) 18 (bytesV (over (over (over (over (List.replicate 18 (0 : UInt8)) 0 [112]) 2 [UInt8.ofNat k]) 3 (be 0 4)) 7 [10])))).fetch (blk bx [.slice (some ⟨b6, 0, none⟩) 18 18] 22)) (Gives.ownO (v := .slice a39 ((be c 2)).length 2)))) rfl rfl ?_
  rintro _ w h
  refine WL.nil (W.seq (W.region (WL.val run_move rfl rfl (WL.val run_assign rfl rfl (WL.nil (W.ret (bodyQ.r1 (v := .slice _ _ _) Tryz.results39 rfl ?_)))))))
  have h : On W0 (blk bx _ _ :: OwnB (.slice (some ⟨b6, 0, none⟩) (senseB k c).length (senseB k c).length) (senseB k c) :: _) w := h
  exact ⟨_, rfl, h.to⟩

theorem capacity_ok {n : Nat} (h1 : 1 ≤ n) (h2 : n ≤ 1024) (h : On W0 L w) : Calls Tryz.prog 91 #[.int .i64 (n : Int)] w (Ret fun v w' => ∃ a, v = .slice a (capB n).length (capB n).length ∧ On W0 (OwnB (.slice a (capB n).length (capB n).length) (capB n) :: L) w') := by
  refine enter Tryz.func91 rfl Tryz.ntmps91 rfl (W.seq (W.region (WL.val run_assign rfl rfl (WL.nil (W.seq (W.region (WL.val run_move rfl rfl ?_)))))))
  refine WL.val (run_maxN (m := n) (n := 1) (r := n) rfl rfl (by omega)) rfl rfl (WL.val (run_subN (m := n) (n := 1) rfl rfl (by omega) (by omega)) rfl rfl (WL.val (run_convIn Tryz.underlying3 Tryz.underlying23 rfl (by show (0 : Int) ≤ _; omega) (by show _ ≤ (18446744073709551615 : Int); omega)) rfl rfl (WL.eff (eff_call Tryz.call87 (bput_ok (ax := none) (cx := 0) (bs := []) (v := n - 1) (n := 4) h Gives.nilB (by decide) (by decide) (by omega) (by decide))) rfl rfl ?_)))
  rintro _ w ⟨a7, rfl, h⟩
  refine WL.eff (eff_call Tryz.call87 (bput_ok (v := 8) (n := 4) (bs := [] ++ be (n - 1) 4) h (Gives.ownO (v := .slice a7 ([] ++ be (n - 1) 4).length ([] ++ be (n - 1) 4).length)) (by decide) (by decide) (by omega) (by rw [List.nil_append, be_length]; decide))) rfl rfl ?_
  rintro _ w ⟨a8, rfl, h⟩
  refine WL.val run_assign rfl rfl (WL.nil (W.ret (bodyQ.r1 (v := .slice _ _ _) Tryz.results91 rfl ?_)))
  have h2 : On W0 (OwnB (.slice a8 (capB n).length (capB n).length) (capB n) :: _) w := h
  exact ⟨a8, rfl, h2.to⟩

end Go.Proofs.YtdpakoefdpmebaaGreat
