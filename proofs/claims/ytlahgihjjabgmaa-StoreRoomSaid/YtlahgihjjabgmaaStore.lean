/-
  A store: head, snapshot, journal: the contracts. Lines of walks printed by a program of the prover's.
-/
import Derived.Test.YtlahgihjjabgmaaRing5
import Derived.Test.YtlahgihjjabgmaaTwin5
import Derived.Test.YtlahgihjjabgmaaStoreN
namespace Go.Proofs.Ytlahgihjjabgmaa
open Go Go.Sl Go.Sl.ByM Go.Sl.DkM Go.Sl.TwM Go.Sl.RgM Go.Sl.StM
set_option linter.unusedVariables false
set_option linter.unusedSimpArgs false
set_option maxHeartbeats 1000000
set_option maxRecDepth 8000
variable {W0 w : World} {L F : List HProp}

theorem hbytes_ok {hd : Hd} (o : hd.ok) (h : On W0 L w) : Calls Try.prog 99 #[(.agg #[.int .u64 (hd.epoch : Int), .int .u32 (hd.life : Int), .int .i64 (hd.which : Int), .int .u64 (hd.base : Int), .int .i64 (hd.size : Int), .int .u64 (hd.first : Int), .int .i64 (hd.place : Int)])] w (Ret fun v w' => ∃ a, v = .slice a (headB hd).length (headB hd).length ∧ On W0 (OwnB (.slice a (headB hd).length (headB hd).length) (headB hd) :: L) w') := by
  refine enter Try.func99 rfl Try.ntmps99 rfl ?_
  obtain ⟨o1, o2, o3, o4, o5, o6, o7⟩ := o
  refine W.seq ?_
  refine W.region ?_
  refine WL.eff (eff_box (v := .agg _) (l := [.int .u64 (hd.epoch : Int), .int .u32 (hd.life : Int), .int .i64 (hd.which : Int), .int .u64 (hd.base : Int), .int .i64 (hd.size : Int), .int .u64 (hd.first : Int), .int .i64 (hd.place : Int)]) h rfl rfl) rfl rfl ?_
  rintro _ w ⟨b1, rfl, h⟩
  refine WL.val run_assign rfl rfl ?_
  refine WL.nil ?_
  refine W.seq ?_
  refine W.draw Try.follows h (fun w h => ?_)
  refine WT.pure 0 rfl (by kernel_rfl) (fun w' => (run_fieldAddr 0 Try.underlying144 rfl Try.sizeOf40 rfl rfl)) rfl rfl ?_
  refine WT.load1 1 rfl (by kernel_rfl) Try.isAgg40 rfl (h.cellB rfl) rfl rfl ?_
  refine WT.pure 3 rfl (by kernel_rfl) (fun w' => (run_fieldAddr 1 Try.underlying144 rfl Try.sizeOf59 rfl rfl)) rfl rfl ?_
  refine WT.load1 4 rfl (by kernel_rfl) Try.isAgg59 rfl (h.cellB rfl) rfl rfl ?_
  refine WT.pure 5 rfl (by kernel_rfl) (fun w' => (run_convIn Try.underlying59 Try.underlying40 rfl (by show (0 : Int) ≤ _; omega) (by show _ ≤ (18446744073709551615 : Int); omega))) rfl rfl ?_
  refine WT.pure 7 rfl (by kernel_rfl) (fun w' => (run_fieldAddr 2 Try.underlying144 rfl Try.sizeOf3 rfl rfl)) rfl rfl ?_
  refine WT.load1 8 rfl (by kernel_rfl) Try.isAgg3 rfl (h.cellB rfl) rfl rfl ?_
  refine WT.pure 9 rfl (by kernel_rfl) (fun w' => (run_convIn Try.underlying3 Try.underlying40 rfl (by show (0 : Int) ≤ _; omega) (by show _ ≤ (18446744073709551615 : Int); omega))) rfl rfl ?_
  refine WT.eff 2 [true, true, false] rfl (by kernel_rfl) (by kernel_rfl) (eff_call Try.call73 (bput_ok (v := hd.epoch) (n := 8) (bs := []) h (Gives.nilB) (by decide) (by decide) (by omega) (by first | decide | (rw [show [].length = 0 from by simp only [List.length_append, be_length, List.length_nil]]; decide)))) rfl rfl ?_
  rintro _ w ⟨a6, rfl, h⟩
  refine ⟨⟨h.cellB rfl, h.cellB rfl, trivial⟩, ?_⟩
  refine WT.eff 6 [true, false] rfl (by kernel_rfl) (by kernel_rfl) (eff_call Try.call73 (bput_ok (v := hd.life) (n := 4) (bs := (([] : List UInt8) ++ be hd.epoch 8)) h (Gives.ownO (v := .slice a6 (([] : List UInt8) ++ be hd.epoch 8).length (([] : List UInt8) ++ be hd.epoch 8).length)) (by decide) (by decide) (by omega) (by first | decide | (rw [show (([] : List UInt8) ++ be hd.epoch 8).length = 8 from by simp only [List.length_append, be_length, List.length_nil]]; decide)))) rfl rfl ?_
  rintro _ w ⟨a10, rfl, h⟩
  refine ⟨⟨h.cellB rfl, trivial⟩, ?_⟩
  refine WT.eff 10 [false] rfl (by kernel_rfl) (by kernel_rfl) (eff_call Try.call73 (bput_ok (v := hd.which) (n := 1) (bs := ((([] : List UInt8) ++ be hd.epoch 8) ++ be hd.life 4)) h (Gives.ownO (v := .slice a10 ((([] : List UInt8) ++ be hd.epoch 8) ++ be hd.life 4).length ((([] : List UInt8) ++ be hd.epoch 8) ++ be hd.life 4).length)) (by decide) (by decide) (by omega) (by first | decide | (rw [show ((([] : List UInt8) ++ be hd.epoch 8) ++ be hd.life 4).length = 12 from by simp only [List.length_append, be_length, List.length_nil]]; decide)))) rfl rfl ?_
  rintro _ w ⟨a14, rfl, h⟩
  refine ⟨trivial, ?_⟩
  refine WT.pure 11 rfl (by kernel_rfl) (fun w' => run_assign) rfl rfl ?_
  refine WT.done (by kernel_rfl) ?_
  refine W.seq ?_
  refine W.draw Try.follows h (fun w h => ?_)
  refine WT.pure 0 rfl (by kernel_rfl) (fun w' => run_move) rfl rfl ?_
  refine WT.pure 1 rfl (by kernel_rfl) (fun w' => (run_fieldAddr 3 Try.underlying144 rfl Try.sizeOf40 rfl rfl)) rfl rfl ?_
  refine WT.load1 2 rfl (by kernel_rfl) Try.isAgg40 rfl (h.cellB rfl) rfl rfl ?_
  refine WT.pure 4 rfl (by kernel_rfl) (fun w' => (run_fieldAddr 4 Try.underlying144 rfl Try.sizeOf3 rfl rfl)) rfl rfl ?_
  refine WT.load1 5 rfl (by kernel_rfl) Try.isAgg3 rfl (h.cellB rfl) rfl rfl ?_
  refine WT.pure 6 rfl (by kernel_rfl) (fun w' => (run_convIn Try.underlying3 Try.underlying40 rfl (by show (0 : Int) ≤ _; omega) (by show _ ≤ (18446744073709551615 : Int); omega))) rfl rfl ?_
  refine WT.eff 3 [true, false] rfl (by kernel_rfl) (by kernel_rfl) (eff_call Try.call73 (bput_ok (v := hd.base) (n := 8) (bs := (((([] : List UInt8) ++ be hd.epoch 8) ++ be hd.life 4) ++ be hd.which 1)) h (Gives.ownO (v := .slice a14 (((([] : List UInt8) ++ be hd.epoch 8) ++ be hd.life 4) ++ be hd.which 1).length (((([] : List UInt8) ++ be hd.epoch 8) ++ be hd.life 4) ++ be hd.which 1).length)) (by decide) (by decide) (by omega) (by first | decide | (rw [show (((([] : List UInt8) ++ be hd.epoch 8) ++ be hd.life 4) ++ be hd.which 1).length = 13 from by simp only [List.length_append, be_length, List.length_nil]]; decide)))) rfl rfl ?_
  rintro _ w ⟨a18, rfl, h⟩
  refine ⟨⟨h.cellB rfl, trivial⟩, ?_⟩
  refine WT.eff 7 [false] rfl (by kernel_rfl) (by kernel_rfl) (eff_call Try.call73 (bput_ok (v := hd.size) (n := 4) (bs := ((((([] : List UInt8) ++ be hd.epoch 8) ++ be hd.life 4) ++ be hd.which 1) ++ be hd.base 8)) h (Gives.ownO (v := .slice a18 ((((([] : List UInt8) ++ be hd.epoch 8) ++ be hd.life 4) ++ be hd.which 1) ++ be hd.base 8).length ((((([] : List UInt8) ++ be hd.epoch 8) ++ be hd.life 4) ++ be hd.which 1) ++ be hd.base 8).length)) (by decide) (by decide) (by omega) (by first | decide | (rw [show ((((([] : List UInt8) ++ be hd.epoch 8) ++ be hd.life 4) ++ be hd.which 1) ++ be hd.base 8).length = 21 from by simp only [List.length_append, be_length, List.length_nil]]; decide)))) rfl rfl ?_
  rintro _ w ⟨a22, rfl, h⟩
  refine ⟨trivial, ?_⟩
  refine WT.pure 8 rfl (by kernel_rfl) (fun w' => run_assign) rfl rfl ?_
  refine WT.done (by kernel_rfl) ?_
  refine W.seq ?_
  refine W.draw Try.follows h (fun w h => ?_)
  refine WT.pure 0 rfl (by kernel_rfl) (fun w' => run_move) rfl rfl ?_
  refine WT.pure 1 rfl (by kernel_rfl) (fun w' => (run_fieldAddr 5 Try.underlying144 rfl Try.sizeOf40 rfl rfl)) rfl rfl ?_
  refine WT.load1 2 rfl (by kernel_rfl) Try.isAgg40 rfl (h.cellB rfl) rfl rfl ?_
  refine WT.pure 4 rfl (by kernel_rfl) (fun w' => (run_fieldAddr 6 Try.underlying144 rfl Try.sizeOf3 rfl rfl)) rfl rfl ?_
  refine WT.load1 5 rfl (by kernel_rfl) Try.isAgg3 rfl (h.cellB rfl) rfl rfl ?_
  refine WT.pure 6 rfl (by kernel_rfl) (fun w' => (run_convIn Try.underlying3 Try.underlying40 rfl (by show (0 : Int) ≤ _; omega) (by show _ ≤ (18446744073709551615 : Int); omega))) rfl rfl ?_
  refine WT.eff 3 [true, false] rfl (by kernel_rfl) (by kernel_rfl) (eff_call Try.call73 (bput_ok (v := hd.first) (n := 8) (bs := (((((([] : List UInt8) ++ be hd.epoch 8) ++ be hd.life 4) ++ be hd.which 1) ++ be hd.base 8) ++ be hd.size 4)) h (Gives.ownO (v := .slice a22 (((((([] : List UInt8) ++ be hd.epoch 8) ++ be hd.life 4) ++ be hd.which 1) ++ be hd.base 8) ++ be hd.size 4).length (((((([] : List UInt8) ++ be hd.epoch 8) ++ be hd.life 4) ++ be hd.which 1) ++ be hd.base 8) ++ be hd.size 4).length)) (by decide) (by decide) (by omega) (by first | decide | (rw [show (((((([] : List UInt8) ++ be hd.epoch 8) ++ be hd.life 4) ++ be hd.which 1) ++ be hd.base 8) ++ be hd.size 4).length = 25 from by simp only [List.length_append, be_length, List.length_nil]]; decide)))) rfl rfl ?_
  rintro _ w ⟨a26, rfl, h⟩
  refine ⟨⟨h.cellB rfl, trivial⟩, ?_⟩
  refine WT.eff 7 [false] rfl (by kernel_rfl) (by kernel_rfl) (eff_call Try.call73 (bput_ok (v := hd.place) (n := 2) (bs := ((((((([] : List UInt8) ++ be hd.epoch 8) ++ be hd.life 4) ++ be hd.which 1) ++ be hd.base 8) ++ be hd.size 4) ++ be hd.first 8)) h (Gives.ownO (v := .slice a26 ((((((([] : List UInt8) ++ be hd.epoch 8) ++ be hd.life 4) ++ be hd.which 1) ++ be hd.base 8) ++ be hd.size 4) ++ be hd.first 8).length ((((((([] : List UInt8) ++ be hd.epoch 8) ++ be hd.life 4) ++ be hd.which 1) ++ be hd.base 8) ++ be hd.size 4) ++ be hd.first 8).length)) (by decide) (by decide) (by omega) (by first | decide | (rw [show ((((((([] : List UInt8) ++ be hd.epoch 8) ++ be hd.life 4) ++ be hd.which 1) ++ be hd.base 8) ++ be hd.size 4) ++ be hd.first 8).length = 33 from by simp only [List.length_append, be_length, List.length_nil]]; decide)))) rfl rfl ?_
  rintro _ w ⟨a30, rfl, h⟩
  refine ⟨trivial, ?_⟩
  refine WT.pure 8 rfl (by kernel_rfl) (fun w' => run_assign) rfl rfl ?_
  refine WT.done (by kernel_rfl) ?_
  refine W.ret ?_
  refine bodyQ.r1 (v := .slice _ _ _) Try.results99 rfl ?_
  -- path 
  have h2 : On W0 (OwnB (.slice a30 (headB hd).length (headB hd).length) (headB hd) :: _) w := h
  exact ⟨a30, rfl, h2.to⟩

theorem pget_ok {ax : Option Addr} {cx b1 b4 q n x : Nat} {B : List UInt8} (h1 : 1 ≤ n) (h8 : n ≤ 8) (hin : q + n ≤ B.length) (hB : B.length ≤ 1000) (hx : fieldR B q n = x) (C : Gives L (Bytes (.slice ax B.length cx) B)) (h : On W0 (blk b1 [.slice ax B.length cx] 22 :: blk b4 [.int .i64 (q : Int)] 3 :: L) w) : Calls Try.prog 113 #[.int .i64 (n : Int), .pointer (some ⟨b1, 0, none⟩), .pointer (some ⟨b4, 0, none⟩)] w (Ret fun v w' => v = .int .u64 (x : Int) ∧ On W0 (blk b1 [.slice ax B.length cx] 22 :: blk b4 [.int .i64 ((q + n : Nat) : Int)] 3 :: L) w') := by
  refine enter Try.func113 rfl Try.ntmps113 rfl ?_
  refine W.seq ?_
  refine W.region ?_
  refine WL.val run_assign rfl rfl ?_
  refine WL.nil ?_
  refine W.seq ?_
  refine W.region ?_
  refine WL.val (run_load1 Try.isAgg22 rfl (h.cellB rfl)) rfl rfl ?_
  refine WL.val (run_load1 Try.isAgg3 rfl (h.cellB rfl)) rfl rfl ?_
  refine WL.val run_move rfl rfl ?_
  refine WL.eff (eff_call Try.call80 (bget_ok (at_ := (q : Int)) (n := (n : Int)) (bs := B) h (Gives.to C))) rfl rfl ?_
  rintro _ w hg
  rcases hg with ⟨_, hv, h⟩ | ⟨hno, _, _⟩
  rotate_left
  · exact absurd (show _ by omega) hno
  have hv : _ = Value.tuple #[.int .u64 (fieldR B q n : Int), .bool true] := hv
  rw [hx] at hv
  subst hv
  refine WL.val run_move rfl rfl ?_
  refine WL.val (run_extract rfl rfl) rfl rfl ?_
  refine WL.val (run_extract rfl rfl) rfl rfl ?_
  refine WL.val run_assign rfl rfl ?_
  refine WL.val run_assign rfl rfl ?_
  refine WL.nil ?_
  refine W.seq ?_
  refine W.region ?_
  refine WL.val (run_load1 Try.isAgg3 rfl (h.cellB rfl)) rfl rfl ?_
  refine WL.val run_move rfl rfl ?_
  refine WL.val (run_addN (m := q) (n := n) rfl rfl (by omega)) rfl rfl ?_
  refine WL.eff (eff_store (v := .int .i64 _) h Try.sizeOf3 rfl rfl rfl rfl rfl) rfl rfl ?_
  rintro _ w h
  try simp only [Nat.zero_add, Nat.add_zero, List.set_cons_zero, List.set_cons_succ] at h
  refine WL.nil ?_
  refine W.seq ?_
  refine W.region ?_
  refine WL.val run_move rfl rfl ?_
  refine WL.val run_assign rfl rfl ?_
  refine WL.nil ?_
  refine W.ret ?_
  refine bodyQ.r1 (v := .int .u64 _) Try.results113 rfl ?_
  -- path 
  exact ⟨rfl, h⟩

theorem parse_ok {ax : Option Addr} {cx n : Nat} {hd : Hd} (o : hd.ok) (hn : n = (headB hd).length) (h : On W0 L w) (C : Gives L (Cells 1 (.slice ax n cx) n (bytesV (headB hd)))) : Calls Try.prog 97 #[.slice ax n cx] w (Ret fun v w' => v = .tuple #[(.agg #[.int .u64 (hd.epoch : Int), .int .u32 (hd.life : Int), .int .i64 (hd.which : Int), .int .u64 (hd.base : Int), .int .i64 (hd.size : Int), .int .u64 (hd.first : Int), .int .i64 (hd.place : Int)]), .bool true] ∧ On W0 L w') := by
  refine enter Try.func97 rfl Try.ntmps97 rfl ?_
  subst hn
  have hf := head_fields o
  obtain ⟨f1, f2, f3, f4, f5, f6, f7⟩ := hf
  obtain ⟨o1, o2, o3, o4, o5, o6, o7⟩ := o
  have hbl := headB_length hd
  refine W.seq ?_
  refine W.region ?_
  refine WL.eff (eff_box (v := .slice _ _ _) (l := [.slice _ _ _]) h rfl rfl) rfl rfl ?_
  rintro _ w ⟨b1, rfl, h⟩
  refine WL.eff (eff_alloc h Try.zeroValue144 rfl) rfl rfl ?_
  rintro _ w ⟨b2, rfl, h⟩
  refine WL.val run_assign rfl rfl ?_
  refine WL.nil ?_
  refine W.seq ?_
  refine W.seq ?_
  refine W.region ?_
  refine WL.val (run_load1 Try.isAgg22 rfl (h.cellB rfl)) rfl rfl ?_
  refine WL.val (run_lenSlice Try.underlying22 rfl) rfl rfl ?_
  refine WL.val (run_neqF rfl rfl (by rw [hbl]; rfl)) rfl rfl ?_
  refine WL.nil ?_
  refine W.condF rfl ?_
  refine W.skip ?_
  refine W.seq ?_
  refine W.region ?_
  refine WL.eff (eff_alloc h Try.zeroValue3 rfl) rfl rfl ?_
  rintro _ w ⟨b4, rfl, h⟩
  refine WL.eff (eff_store (v := .int .i64 _) h Try.sizeOf3 rfl rfl rfl rfl rfl) rfl rfl ?_
  rintro _ w h
  try simp only [Nat.zero_add, Nat.add_zero, List.set_cons_zero, List.set_cons_succ] at h
  refine WL.nil ?_
  refine W.seq ?_
  refine W.region ?_
  refine WL.val run_makeFunc rfl rfl ?_
  refine WL.val run_assign rfl rfl ?_
  refine WL.nil ?_
  refine W.seq ?_
  refine W.region ?_
  refine WL.val run_move rfl rfl ?_
  refine WL.eff (eff_call1C2 (v1 := .int .i64 ((8 : Nat) : Int)) rfl Try.call113 rfl (pget_ok (ax := ax) (cx := cx) (b1 := b1) (b4 := b4) (q := 0) (n := 8) (x := hd.epoch) (B := (headB hd)) (by decide) (by decide) (by rw [headB_length]; decide) (by rw [headB_length]; decide) f1 (Gives.to C) ((h.fetch (blk b4 [.int .i64 ((0 : Nat) : Int)] 3)).fetch (blk b1 [.slice ax (headB hd).length cx] 22)))) rfl rfl ?_
  rintro _ w ⟨rfl, h⟩
  have h : On W0 (blk b1 [.slice ax (headB hd).length cx] 22 :: blk b4 [.int .i64 ((8 : Nat) : Int)] 3 :: _) w := h
  refine WL.val run_move rfl rfl ?_
  refine WL.eff (eff_call1C2 (v1 := .int .i64 ((4 : Nat) : Int)) rfl Try.call113 rfl (pget_ok (ax := ax) (cx := cx) (b1 := b1) (b4 := b4) (q := 8) (n := 4) (x := hd.life) (B := (headB hd)) (by decide) (by decide) (by rw [headB_length]; decide) (by rw [headB_length]; decide) f2 (Gives.to C) ((h.fetch (blk b4 [.int .i64 ((8 : Nat) : Int)] 3)).fetch (blk b1 [.slice ax (headB hd).length cx] 22)))) rfl rfl ?_
  rintro _ w ⟨rfl, h⟩
  have h : On W0 (blk b1 [.slice ax (headB hd).length cx] 22 :: blk b4 [.int .i64 ((12 : Nat) : Int)] 3 :: _) w := h
  refine WL.val (run_convIn Try.underlying40 Try.underlying59 rfl (by show (0 : Int) ≤ _; omega) (by show _ ≤ (4294967295 : Int); omega)) rfl rfl ?_
  refine WL.val run_move rfl rfl ?_
  refine WL.eff (eff_call1C2 (v1 := .int .i64 ((1 : Nat) : Int)) rfl Try.call113 rfl (pget_ok (ax := ax) (cx := cx) (b1 := b1) (b4 := b4) (q := 12) (n := 1) (x := hd.which) (B := (headB hd)) (by decide) (by decide) (by rw [headB_length]; decide) (by rw [headB_length]; decide) f3 (Gives.to C) ((h.fetch (blk b4 [.int .i64 ((12 : Nat) : Int)] 3)).fetch (blk b1 [.slice ax (headB hd).length cx] 22)))) rfl rfl ?_
  rintro _ w ⟨rfl, h⟩
  have h : On W0 (blk b1 [.slice ax (headB hd).length cx] 22 :: blk b4 [.int .i64 ((13 : Nat) : Int)] 3 :: _) w := h
  refine WL.val (run_convIn Try.underlying40 Try.underlying3 rfl (by show (-9223372036854775808 : Int) ≤ _; omega) (by show _ ≤ (9223372036854775807 : Int); omega)) rfl rfl ?_
  refine WL.val run_move rfl rfl ?_
  refine WL.eff (eff_call1C2 (v1 := .int .i64 ((8 : Nat) : Int)) rfl Try.call113 rfl (pget_ok (ax := ax) (cx := cx) (b1 := b1) (b4 := b4) (q := 13) (n := 8) (x := hd.base) (B := (headB hd)) (by decide) (by decide) (by rw [headB_length]; decide) (by rw [headB_length]; decide) f4 (Gives.to C) ((h.fetch (blk b4 [.int .i64 ((13 : Nat) : Int)] 3)).fetch (blk b1 [.slice ax (headB hd).length cx] 22)))) rfl rfl ?_
  rintro _ w ⟨rfl, h⟩
  have h : On W0 (blk b1 [.slice ax (headB hd).length cx] 22 :: blk b4 [.int .i64 ((21 : Nat) : Int)] 3 :: _) w := h
  refine WL.val run_move rfl rfl ?_
  refine WL.eff (eff_call1C2 (v1 := .int .i64 ((4 : Nat) : Int)) rfl Try.call113 rfl (pget_ok (ax := ax) (cx := cx) (b1 := b1) (b4 := b4) (q := 21) (n := 4) (x := hd.size) (B := (headB hd)) (by decide) (by decide) (by rw [headB_length]; decide) (by rw [headB_length]; decide) f5 (Gives.to C) ((h.fetch (blk b4 [.int .i64 ((21 : Nat) : Int)] 3)).fetch (blk b1 [.slice ax (headB hd).length cx] 22)))) rfl rfl ?_
  rintro _ w ⟨rfl, h⟩
  have h : On W0 (blk b1 [.slice ax (headB hd).length cx] 22 :: blk b4 [.int .i64 ((25 : Nat) : Int)] 3 :: _) w := h
  refine WL.val (run_convIn Try.underlying40 Try.underlying3 rfl (by show (-9223372036854775808 : Int) ≤ _; omega) (by show _ ≤ (9223372036854775807 : Int); omega)) rfl rfl ?_
  refine WL.val run_move rfl rfl ?_
  refine WL.eff (eff_call1C2 (v1 := .int .i64 ((8 : Nat) : Int)) rfl Try.call113 rfl (pget_ok (ax := ax) (cx := cx) (b1 := b1) (b4 := b4) (q := 25) (n := 8) (x := hd.first) (B := (headB hd)) (by decide) (by decide) (by rw [headB_length]; decide) (by rw [headB_length]; decide) f6 (Gives.to C) ((h.fetch (blk b4 [.int .i64 ((25 : Nat) : Int)] 3)).fetch (blk b1 [.slice ax (headB hd).length cx] 22)))) rfl rfl ?_
  rintro _ w ⟨rfl, h⟩
  have h : On W0 (blk b1 [.slice ax (headB hd).length cx] 22 :: blk b4 [.int .i64 ((33 : Nat) : Int)] 3 :: _) w := h
  refine WL.val run_move rfl rfl ?_
  refine WL.eff (eff_call1C2 (v1 := .int .i64 ((2 : Nat) : Int)) rfl Try.call113 rfl (pget_ok (ax := ax) (cx := cx) (b1 := b1) (b4 := b4) (q := 33) (n := 2) (x := hd.place) (B := (headB hd)) (by decide) (by decide) (by rw [headB_length]; decide) (by rw [headB_length]; decide) f7 (Gives.to C) ((h.fetch (blk b4 [.int .i64 ((33 : Nat) : Int)] 3)).fetch (blk b1 [.slice ax (headB hd).length cx] 22)))) rfl rfl ?_
  rintro _ w ⟨rfl, h⟩
  have h : On W0 (blk b1 [.slice ax (headB hd).length cx] 22 :: blk b4 [.int .i64 ((35 : Nat) : Int)] 3 :: _) w := h
  refine WL.val (run_convIn Try.underlying40 Try.underlying3 rfl (by show (-9223372036854775808 : Int) ≤ _; omega) (by show _ ≤ (9223372036854775807 : Int); omega)) rfl rfl ?_
  refine WL.val (run_buildS (pl := [(0, 1), (1, 1), (2, 1), (3, 1), (4, 1), (5, 1), (6, 1)]) (out := [.int .u64 _, .int .u32 _, .int .i64 _, .int .u64 _, .int .i64 _, .int .u64 _, .int .i64 _]) Try.underlying144 Try.zeroValue144 (fun w => by kernel_rfl) rfl (⟨⟨_, _, rfl, rfl, by decide⟩, ⟨⟨_, _, rfl, rfl, by decide⟩, ⟨⟨_, _, rfl, rfl, by decide⟩, ⟨⟨_, _, rfl, rfl, by decide⟩, ⟨⟨_, _, rfl, rfl, by decide⟩, ⟨⟨_, _, rfl, rfl, by decide⟩, ⟨⟨_, _, rfl, rfl, by decide⟩, trivial⟩⟩⟩⟩⟩⟩⟩) rfl) rfl rfl ?_
  refine WL.eff (eff_alloc h Try.zeroValue144 rfl) rfl rfl ?_
  rintro _ w ⟨b6, rfl, h⟩
  refine WL.eff (eff_storeN (vs := [.int .u64 _, .int .u32 _, .int .i64 _, .int .u64 _, .int .i64 _, .int .u64 _, .int .i64 _]) h Try.sizeOf144 rfl rfl rfl rfl rfl (fun k _ _ => free0 k)) rfl rfl ?_
  rintro _ w h
  try simp only [splice, List.take_zero, List.take_succ_cons, List.take_nil, List.drop_succ_cons, List.drop_zero, List.drop_nil, List.nil_append, List.cons_append, List.append_nil, List.length_cons, List.length_nil, Nat.zero_add, Nat.reduceAdd] at h
  refine WL.nil ?_
  refine W.seq ?_
  refine W.draw Try.follows h (fun w h => ?_)
  refine WT.loadN (vs := [.int .u64 _, .int .u32 _, .int .i64 _, .int .u64 _, .int .i64 _, .int .u64 _, .int .i64 _]) 0 rfl (by kernel_rfl) Try.isAgg144 Try.sizeOf144 rfl rfl (h.rowV (n := 7) rfl) rfl rfl ?_
  refine WT.pure 1 rfl (by kernel_rfl) (fun w' => (run_fieldAddr 2 Try.underlying144 rfl Try.sizeOf3 rfl rfl)) rfl rfl ?_
  refine WT.load1 2 rfl (by kernel_rfl) Try.isAgg3 rfl (h.cellB rfl) rfl rfl ?_
  refine WT.pure 3 rfl (by kernel_rfl) (fun w' => run_leqT rfl rfl (by omega)) rfl rfl ?_
  refine WT.pure 4 rfl (by kernel_rfl) (fun w' => run_move) rfl rfl ?_
  refine WT.pure 5 rfl (by kernel_rfl) (fun w' => (run_fieldAddr 4 Try.underlying144 rfl Try.sizeOf3 rfl rfl)) rfl rfl ?_
  refine WT.load1 6 rfl (by kernel_rfl) Try.isAgg3 rfl (h.cellB rfl) rfl rfl ?_
  refine WT.pure 7 rfl (by kernel_rfl) (fun w' => run_leqT rfl rfl (by omega)) rfl rfl ?_
  refine WT.pure 8 rfl (by kernel_rfl) (fun w' => (run_pickT rfl)) rfl rfl ?_
  refine WT.eff 9 [true, false, false] rfl (by kernel_rfl) (by kernel_rfl) (eff_storeN (vs := [.int .u64 _, .int .u32 _, .int .i64 _, .int .u64 _, .int .i64 _, .int .u64 _, .int .i64 _]) h Try.sizeOf144 rfl rfl rfl rfl rfl (fun k _ _ => free0 k)) rfl rfl ?_
  rintro _ w h
  try simp only [splice, List.take_zero, List.take_succ_cons, List.take_nil, List.drop_succ_cons, List.drop_zero, List.drop_nil, List.nil_append, List.cons_append, List.append_nil, List.length_cons, List.length_nil, Nat.zero_add, Nat.reduceAdd] at h
  refine ⟨⟨h.cellB rfl, trivial⟩, ?_⟩
  refine WT.pure 10 rfl (by kernel_rfl) (fun w' => run_assign) rfl rfl ?_
  refine WT.done (by kernel_rfl) ?_
  refine W.ret ?_
  refine bodyQ.rctB (vs := [.int .u64 _, .int .u32 _, .int .i64 _, .int .u64 _, .int .i64 _, .int .u64 _, .int .i64 _]) (v2 := .bool _) h Try.results97 Try.isAgg144 Try.sizeOf144 rfl rfl rfl rfl ?_
  -- path 
  exact ⟨rfl, h.to⟩

theorem begin_ok {life : Nat} (hl : life < 2147483648) (h : On W0 L w) : Calls Try.prog 98 #[.int .u32 (life : Int)] w (Ret fun v w' => v = .int .u64 ((life * 2 ^ 32 : Nat) : Int) ∧ On W0 L w') := by
  refine enter Try.func98 rfl Try.ntmps98 rfl ?_
  refine W.seq ?_
  refine W.region ?_
  refine WL.val run_assign rfl rfl ?_
  refine WL.nil ?_
  refine W.seq ?_
  refine W.region ?_
  refine WL.val run_move rfl rfl ?_
  refine WL.val (run_convIn Try.underlying59 Try.underlying40 rfl (by show (0 : Int) ≤ _; omega) (by show _ ≤ (18446744073709551615 : Int); omega)) rfl rfl ?_
  refine WL.val (run_shlN (k := .u64) (m := life) (j := 32) rfl rfl (by show _ ≤ 64; decide) (by show _ ≤ (18446744073709551615 : Int); omega)) rfl rfl ?_
  refine WL.val run_assign rfl rfl ?_
  refine WL.nil ?_
  refine W.ret ?_
  refine bodyQ.r1 (v := .int .u64 _) Try.results98 rfl ?_
  -- path 
  exact ⟨rfl, h⟩

theorem sformat_ok {b : Nat} {d : Dk} (hbl : ∀ k, readD d k = List.replicate 512 0) (hl : Live d) (hn : d.n = 354) (hc : d.calls ≤ 1000000) (h : On W0 (DiskP 106 110 b d :: L) w) : Calls Try.prog 55 #[.pointer (some ⟨b, 0, none⟩)] w (Ret fun v w' => v = .int .i64 0 ∧ ∃ d', Live d' ∧ d'.n = 354 ∧ d'.calls = d.calls + 3 ∧ TwI d' 0 1 (headB (⟨0, 1, 0, 0, 0, 4294967296, 0⟩ : Hd)) ∧ (∀ k : Nat, 2 ≤ k → readD d' ((k : Nat) : Int) = List.replicate 512 0) ∧ On W0 (DiskP 106 110 b d' :: L) w') := by
  refine enter Try.func55 rfl Try.ntmps55 rfl ?_
  have hin : inT d 0 := ⟨Int.le_refl 0, by rw [hn]; decide⟩
  have hoi : (⟨0, 1, 0, 0, 0, 4294967296, 0⟩ : Hd).ok := ⟨by decide, by decide, by decide, by decide, by decide, by decide, by decide⟩
  refine W.seq ?_
  refine W.region ?_
  refine WL.val run_assign rfl rfl ?_
  refine WL.nil ?_
  refine W.seq ?_
  refine W.seq ?_
  refine W.region ?_
  refine WL.val run_move rfl rfl ?_
  refine WL.eff (eff_call Try.call63 (sectors_ok h)) rfl rfl ?_
  rintro _ w ⟨rfl, h⟩
  refine WL.val (run_lssF rfl rfl (by rw [hn]; decide)) rfl rfl ?_
  refine WL.nil ?_
  refine W.condF rfl ?_
  refine W.skip ?_
  refine W.seq ?_
  refine W.region ?_
  refine WL.val run_assign rfl rfl ?_
  refine WL.nil ?_
  refine W.seq ?_
  refine W.seq ?_
  refine W.region ?_
  refine WL.val run_move rfl rfl ?_
  refine WL.eff (eff_call Try.call29 (open_none (open_blank hl.st hin hbl) (by omega) h)) rfl rfl ?_
  rintro _ w ⟨rfl, h⟩
  refine WL.val run_move rfl rfl ?_
  refine WL.val (run_extract rfl rfl) rfl rfl ?_
  refine WL.val (run_extract rfl rfl) rfl rfl ?_
  refine WL.val run_assign rfl rfl ?_
  refine WL.val run_assign rfl rfl ?_
  refine WL.nil ?_
  refine W.seq ?_
  refine W.region ?_
  refine WL.val run_move rfl rfl ?_
  refine WL.val (run_eqlF rfl rfl (by decide)) rfl rfl ?_
  refine WL.nil ?_
  refine W.condF rfl ?_
  refine W.skip ?_
  refine W.seq ?_
  refine W.region ?_
  refine WL.val run_move rfl rfl ?_
  refine WL.val run_move rfl rfl ?_
  refine WL.val run_move rfl rfl ?_
  refine WL.eff (eff_call Try.call98 (begin_ok (life := 1) (by decide) h)) rfl rfl ?_
  rintro _ w ⟨rfl, h⟩
  refine WL.val (run_buildS (pl := [(0, 1), (1, 1), (2, 1), (3, 1), (4, 1), (5, 1), (6, 1)]) (out := [.int .u64 _, .int .u32 _, .int .i64 _, .int .u64 _, .int .i64 _, .int .u64 _, .int .i64 _]) Try.underlying144 Try.zeroValue144 (fun w => by kernel_rfl) rfl (⟨⟨_, _, rfl, rfl, by decide⟩, ⟨⟨_, _, rfl, rfl, by decide⟩, trivial⟩⟩) rfl) rfl rfl ?_
  refine WL.eff (eff_call Try.call99 (hbytes_ok (hd := (⟨0, 1, 0, 0, 0, 4294967296, 0⟩ : Hd)) hoi h)) rfl rfl ?_
  rintro _ w ⟨a33, rfl, h⟩
  refine WL.eff (eff_call Try.call30 (format_ok (d := d) (at_ := 0) (value := headB (⟨0, 1, 0, 0, 0, 4294967296, 0⟩ : Hd)) ⟨by omega, by rw [hl.armed]; decide⟩ (by omega) (h.fetch (DiskP 106 110 b d)) (Gives.ownO (v := .slice a33 (headB (⟨0, 1, 0, 0, 0, 4294967296, 0⟩ : Hd)).length (headB (⟨0, 1, 0, 0, 0, 4294967296, 0⟩ : Hd)).length)))) rfl rfl ?_
  rintro v34 w ⟨hv34, h⟩
  have ob_ := format_all (v := headB (⟨0, 1, 0, 0, 0, 4294967296, 0⟩ : Hd)) hl hn (by rw [headB_length]; decide)
  obtain ⟨e1, l1, n1, c1, T1, r1⟩ := ob_
  rw [e1] at hv34
  subst hv34
  refine WL.val run_assign rfl rfl ?_
  refine WL.nil ?_
  refine W.ret ?_
  refine bodyQ.r1 (v := .int .i64 _) Try.results55 rfl ?_
  -- path 
  exact ⟨rfl, _, l1, n1, c1, T1, (fun k hk => by rw [r1 k hk]; exact hbl _), h.to⟩

theorem tput2 {bt b cx tn : Nat} {ax : Option Addr} {d : Dk} {val nv : List UInt8} (I : TwI d 0 tn val) (hnb : tn + 1 < 256 ^ 8) (hv1 : nv.length ≤ 488) (hlow : d.calls ≤ 1000000000) (h : On W0 (TwinP 126 bt b 0 tn val :: DiskP 106 110 b d :: L) w) (C : Gives L (Bytes (.slice ax nv.length cx) nv)) : Calls Try.prog 72 #[.pointer (some ⟨bt, 0, none⟩), .slice ax nv.length cx] w (Ret fun v w' => v = .int .i64 0 ∧ On W0 (TwinP 126 bt b 0 (tn + 1) nv :: DiskP 106 110 b (putT d 0 tn nv).2 :: L) w') := (put_ok ⟨by omega, by rw [I.live.armed]; decide⟩ ⟨Int.le_refl 0, by decide⟩ hnb h C).mono fun e w' he => by
  obtain ⟨v, he, hv⟩ := he
  refine ⟨v, he, ?_⟩
  obtain ⟨hv, h⟩ := hv
  obtain ⟨e1, _⟩ := put_all I hnb hv1
  rw [e1] at hv
  rw [if_pos e1, if_pos e1] at h
  exact ⟨hv, h⟩

theorem sread_ok {bs b bt w_ : Nat} {hd : Hd} {vr sv lv : Value} {d : Dk} {s : List UInt8} (hS : SnapOn d w_ s) (hw : w_ ≤ 1) (hsl : s.length ≤ 24576) (hs : stE d = 0) (hn : d.n = 354) (h : On W0 (blk bs [.pointer (some ⟨b, 0, none⟩), .pointer (some ⟨bt, 0, none⟩), vr, .int .u64 (hd.epoch : Int), .int .u32 (hd.life : Int), .int .i64 (hd.which : Int), .int .u64 (hd.base : Int), .int .i64 (hd.size : Int), .int .u64 (hd.first : Int), .int .i64 (hd.place : Int), sv, lv] 150 :: DiskP 106 110 b d :: L) w) : Calls Try.prog 100 #[.pointer (some ⟨bs, 0, none⟩), .int .i64 (w_ : Int), .int .i64 (s.length : Int)] w (Ret fun v w' => ∃ a, v = .tuple #[.slice a s.length s.length, .int .i64 0] ∧ On W0 (OwnB (.slice a s.length s.length) s :: blk bs [.pointer (some ⟨b, 0, none⟩), .pointer (some ⟨bt, 0, none⟩), vr, .int .u64 (hd.epoch : Int), .int .u32 (hd.life : Int), .int .i64 (hd.which : Int), .int .u64 (hd.base : Int), .int .i64 (hd.size : Int), .int .u64 (hd.first : Int), .int .i64 (hd.place : Int), sv, lv] 150 :: DiskP 106 110 b d :: L) w') := by
  refine enter Try.func100 rfl Try.ntmps100 rfl ?_
  have hmx := maxLen_eq
  refine W.seq ?_
  refine W.region ?_
  refine WL.val run_assign rfl rfl ?_
  refine WL.val run_assign rfl rfl ?_
  refine WL.nil ?_
  refine W.scope ?_
  refine W.seq ?_
  refine W.region ?_
  refine WL.val run_assign rfl rfl ?_
  refine WL.nil ?_
  refine W.seq ?_
  refine W.label ?_
  refine W.seq ?_
  refine W.seq ?_
  refine W.region ?_
  refine WL.val run_assign rfl rfl ?_
  refine WL.nil ?_
  refine W.block ?_
  refine W.loop (fun (i : Nat) env w => i ≤ 48 ∧ ∃ (j : Env) (ao : Option Addr) (co : Nat) (out z : List UInt8), out.length = i * 512 ∧ out = s.take (i * 512) ++ z ∧ (i * 512 ≤ s.length → z = []) ∧ env = mkE j [(0, .pointer (some ⟨bs, 0, none⟩)), (1, .int .i64 (w_ : Int)), (2, .int .i64 (s.length : Int)), (6, .slice none 0 0), (7, .int .i64 0), (8, .slice ao out.length co), (9, .int .i64 (i : Nat))] ∧ On W0 (OwnB (.slice ao out.length co) out :: blk bs [.pointer (some ⟨b, 0, none⟩), .pointer (some ⟨bt, 0, none⟩), vr, .int .u64 (hd.epoch : Int), .int .u32 (hd.life : Int), .int .i64 (hd.which : Int), .int .u64 (hd.base : Int), .int .i64 (hd.size : Int), .int .u64 (hd.first : Int), .int .i64 (hd.place : Int), sv, lv] 150 :: DiskP 106 110 b d :: L) w) (fun i => 49 - i) (0) ?_ ?_
  · have h := h.ownEmpty 1 none
    exact ⟨Nat.zero_le _, _, none, 0, [], [], rfl, rfl, fun _ => rfl, mkE_of ⟨rfl, rfl, rfl, rfl, rfl, rfl, rfl, trivial⟩, h⟩
  · rintro i env w ⟨hi, j, ao, co, out, z, hol, hoe, hoz, rfl, h⟩
    have ob_ := Own.bounds h
    obtain ⟨hco, _⟩ := ob_
    refine W.seq ?_
    refine W.block ?_
    refine W.seq ?_
    refine W.seq ?_
    refine W.region ?_
    refine WL.val run_move rfl rfl ?_
    refine WL.val (run_lenSlice Try.underlying22 rfl) rfl rfl ?_
    refine WL.val run_move rfl rfl ?_
    refine WL.val (run_geq rfl rfl) rfl rfl ?_
    refine WL.nil ?_
    refine W.condIf rfl (fun c9 => ?_) (fun c9 => ?_)
    · skip
      refine W.exit ?_
      refine W.seq ?_
      have hge : s.length ≤ out.length := by omega
      have hout : out.take s.length = s := by
        rw [hoe, List.take_of_length_le (l := s) (by omega)]
        exact List.take_left
      have h := Own.front h hge
      rw [Nat.mul_one] at h
      have e4 : (bytesV out).take s.length = bytesV s := by unfold bytesV; rw [← List.map_take, hout]
      rw [e4] at h
      refine W.region ?_
      refine WL.val run_move rfl rfl ?_
      refine WL.val run_move rfl rfl ?_
      refine WL.val (run_cutH Try.underlying22 Try.sizeOf5 rfl rfl  (by omega)) rfl rfl ?_
      refine WL.eff (eff_call Try.call81 (clip_bytes h)) rfl rfl ?_
      rintro _ w ⟨rfl, h⟩
      refine WL.val run_assign rfl rfl ?_
      refine WL.val run_assign rfl rfl ?_
      refine WL.nil ?_
      refine W.ret ?_
      refine bodyQ.r2 (v1 := .slice _ _ _) (v2 := .int .i64 _) Try.results100 rfl rfl ?_
      -- path LT
      exact ⟨ao, rfl, h⟩
    · skip
      refine W.skip ?_
      refine W.seq ?_
      have hlt : i * 512 < s.length := by omega
      have hi47 : i < 48 := by omega
      refine W.region ?_
      refine WL.val run_move rfl rfl ?_
      refine WL.val (run_nilCheck rfl) rfl rfl ?_
      refine WL.val (run_fieldAddr 0 Try.underlying150 rfl Try.sizeOf26 rfl rfl) rfl rfl ?_
      refine WL.val (run_load1 Try.isAgg26 rfl (h.cellB rfl)) rfl rfl ?_
      refine WL.val run_move rfl rfl ?_
      refine WL.val (run_mulN (m := w_) (n := 48) rfl rfl (by omega)) rfl rfl ?_
      refine WL.val (run_addN (m := 2) (n := w_ * 48) rfl rfl (by omega)) rfl rfl ?_
      refine WL.val run_move rfl rfl ?_
      refine WL.val (run_addN (m := 2 + w_ * 48) (n := i) rfl rfl (by omega)) rfl rfl ?_
      refine WL.eff (eff_call Try.call21 (read_live (k := ((2 + w_ * 48 + i : Nat) : Int)) hs ⟨by omega, by rw [hn]; omega⟩ (h.fetch (DiskP 106 110 b d)))) rfl rfl ?_
      rintro _ w ⟨bq, rfl, h⟩
      rw [hS i hlt] at h
      refine WL.val run_move rfl rfl ?_
      refine WL.val (run_extract rfl rfl) rfl rfl ?_
      refine WL.val (run_extract rfl rfl) rfl rfl ?_
      refine WL.val run_assign rfl rfl ?_
      refine WL.val run_assign rfl rfl ?_
      refine WL.nil ?_
      refine W.seq ?_
      refine W.seq ?_
      refine W.region ?_
      refine WL.val run_move rfl rfl ?_
      refine WL.val (run_neqF rfl rfl (rfl)) rfl rfl ?_
      refine WL.nil ?_
      refine W.condF rfl ?_
      refine W.skip ?_
      refine W.region ?_
      refine WL.val run_move rfl rfl ?_
      refine WL.val run_move rfl rfl ?_
      refine WL.eff (eff_app (bytes := 1) h rfl rfl (h.cellsO (v := .slice (some ⟨bq, 0, none⟩) 512 512)) Try.underlying22 rfl rfl rfl rfl rfl (by omega) (by omega) bytes_one) rfl rfl ?_
      rintro _ w ⟨a36, c36, rfl, h⟩
      refine WL.val run_assign rfl rfl ?_
      refine WL.nil ?_
      refine W.region ?_
      refine WL.val run_move rfl rfl ?_
      refine WL.val (run_incN rfl rfl (by omega)) rfl rfl ?_
      refine WL.val run_assign rfl rfl ?_
      refine WL.nil ?_
      -- round, path LF
      have ob_ := snap_front hoe hoz hlt
      obtain ⟨z', hz1, hz2⟩ := ob_
      have hfl := full_length (partS s i)
      have e2 : bytesV out ++ bytesV (full (partS s i)) = bytesV (out ++ full (partS s i)) := (List.map_append ..).symm
      have e3 : out.length + 512 = (out ++ full (partS s i)).length := by rw [List.length_append, hfl]
      rw [e2, e3] at h
      exact ⟨i + 1, ⟨by omega, _, a36, c36, out ++ full (partS s i), z', by rw [List.length_append, hfl, hol]; omega, hz1, hz2, mkE_of ⟨rfl, rfl, rfl, rfl, rfl, congrArg (fun k => Value.slice a36 k c36) e3, rfl, trivial⟩, h.to⟩, by show 49 - (i + 1) < 49 - i; omega⟩

theorem sput_ok {bs b bt tn : Nat} {hd nh : Hd} {vr sv lv : Value} {d : Dk} {val : List UInt8} (o : nh.ok) (I : TwI d 0 tn val) (hnb : tn + 1 < 256 ^ 8) (hlow : d.calls ≤ 1000000000) (h : On W0 (blk bs [.pointer (some ⟨b, 0, none⟩), .pointer (some ⟨bt, 0, none⟩), vr, .int .u64 (hd.epoch : Int), .int .u32 (hd.life : Int), .int .i64 (hd.which : Int), .int .u64 (hd.base : Int), .int .i64 (hd.size : Int), .int .u64 (hd.first : Int), .int .i64 (hd.place : Int), sv, lv] 150 :: TwinP 126 bt b 0 tn val :: DiskP 106 110 b d :: L) w) : Calls Try.prog 101 #[.pointer (some ⟨bs, 0, none⟩), (.agg #[.int .u64 (nh.epoch : Int), .int .u32 (nh.life : Int), .int .i64 (nh.which : Int), .int .u64 (nh.base : Int), .int .i64 (nh.size : Int), .int .u64 (nh.first : Int), .int .i64 (nh.place : Int)])] w (Ret fun v w' => v = .int .i64 0 ∧ On W0 (blk bs [.pointer (some ⟨b, 0, none⟩), .pointer (some ⟨bt, 0, none⟩), vr, .int .u64 (nh.epoch : Int), .int .u32 (nh.life : Int), .int .i64 (nh.which : Int), .int .u64 (nh.base : Int), .int .i64 (nh.size : Int), .int .u64 (nh.first : Int), .int .i64 (nh.place : Int), sv, lv] 150 :: TwinP 126 bt b 0 (tn + 1) (headB nh) :: DiskP 106 110 b (putT d 0 tn (headB nh)).2 :: L) w') := by
  refine enter Try.func101 rfl Try.ntmps101 rfl ?_
  refine W.seq ?_
  refine W.region ?_
  refine WL.eff (eff_box (v := .agg _) (l := [.int .u64 (nh.epoch : Int), .int .u32 (nh.life : Int), .int .i64 (nh.which : Int), .int .u64 (nh.base : Int), .int .i64 (nh.size : Int), .int .u64 (nh.first : Int), .int .i64 (nh.place : Int)]) h rfl rfl) rfl rfl ?_
  rintro _ w ⟨b3, rfl, h⟩
  refine WL.val run_assign rfl rfl ?_
  refine WL.nil ?_
  refine W.seq ?_
  refine W.seq ?_
  refine W.draw Try.follows h (fun w h => ?_)
  refine WT.pure 0 rfl (by kernel_rfl) (fun w' => run_move) rfl rfl ?_
  refine WT.pure 1 rfl (by kernel_rfl) (fun w' => (run_nilCheck rfl)) rfl rfl ?_
  refine WT.pure 2 rfl (by kernel_rfl) (fun w' => (run_fieldAddr 1 Try.underlying150 rfl Try.sizeOf49 rfl rfl)) rfl rfl ?_
  refine WT.load1 3 rfl (by kernel_rfl) Try.isAgg49 rfl (h.cellB rfl) rfl rfl ?_
  refine WT.loadN (vs := [.int .u64 _, .int .u32 _, .int .i64 _, .int .u64 _, .int .i64 _, .int .u64 _, .int .i64 _]) 4 rfl (by kernel_rfl) Try.isAgg144 Try.sizeOf144 rfl rfl (h.rowV (n := 7) rfl) rfl rfl ?_
  refine WT.eff 5 [false, true] rfl (by kernel_rfl) (by kernel_rfl) (eff_call Try.call99 (hbytes_ok (hd := nh) o h)) rfl rfl ?_
  rintro _ w ⟨a11, rfl, h⟩
  refine ⟨⟨h.cellB rfl, trivial⟩, ?_⟩
  refine WT.eff 6 [false] rfl (by kernel_rfl) (by kernel_rfl) (eff_call Try.call72 (tput2 (bt := bt) (b := b) (tn := tn) (d := d) (val := val) (nv := (headB nh)) I hnb (by rw [headB_length]; decide) hlow ((h.fetch (DiskP 106 110 b d)).fetch (TwinP 126 bt b 0 tn val)) (Gives.ownO (v := .slice a11 (headB nh).length (headB nh).length)))) rfl rfl ?_
  rintro _ w ⟨rfl, h⟩
  refine ⟨trivial, ?_⟩
  refine WT.pure 7 rfl (by kernel_rfl) (fun w' => run_assign) rfl rfl ?_
  refine WT.done (by kernel_rfl) ?_
  refine W.seq ?_
  refine W.region ?_
  refine WL.val run_move rfl rfl ?_
  refine WL.val (run_neqF rfl rfl (rfl)) rfl rfl ?_
  refine WL.nil ?_
  refine W.condF rfl ?_
  refine W.skip ?_
  refine W.seq ?_
  refine W.region ?_
  refine WL.val run_move rfl rfl ?_
  refine WL.val (run_loadB (vs := [.int .u64 _, .int .u32 _, .int .i64 _, .int .u64 _, .int .i64 _, .int .u64 _, .int .i64 _]) h Try.isAgg144 Try.sizeOf144 rfl rfl rfl) rfl rfl ?_
  refine WL.val (run_nilCheck rfl) rfl rfl ?_
  refine WL.val (run_fieldAddr 3 Try.underlying150 rfl Try.sizeOf144 rfl rfl) rfl rfl ?_
  refine WL.eff (eff_storeN (vs := [.int .u64 _, .int .u32 _, .int .i64 _, .int .u64 _, .int .i64 _, .int .u64 _, .int .i64 _]) h Try.sizeOf144 rfl rfl rfl rfl rfl (fun k _ _ => free0 k)) rfl rfl ?_
  rintro _ w h
  try simp only [splice, List.take_zero, List.take_succ_cons, List.take_nil, List.drop_succ_cons, List.drop_zero, List.drop_nil, List.nil_append, List.cons_append, List.append_nil, List.length_cons, List.length_nil, Nat.zero_add, Nat.reduceAdd] at h
  refine WL.nil ?_
  refine W.seq ?_
  refine W.region ?_
  refine WL.val run_assign rfl rfl ?_
  refine WL.nil ?_
  refine W.ret ?_
  refine bodyQ.r1 (v := .int .i64 _) Try.results101 rfl ?_
  -- path 
  exact ⟨rfl, h.to⟩

theorem slast_ok {bs b bt n c : Nat} {a : Option Addr} {hd : Hd} {vr sv : Value} (hb : hd.base + n < 18446744073709551616) (hn : n ≤ 1000000) (h : On W0 (blk bs [.pointer (some ⟨b, 0, none⟩), .pointer (some ⟨bt, 0, none⟩), vr, .int .u64 (hd.epoch : Int), .int .u32 (hd.life : Int), .int .i64 (hd.which : Int), .int .u64 (hd.base : Int), .int .i64 (hd.size : Int), .int .u64 (hd.first : Int), .int .i64 (hd.place : Int), sv, .slice a n c] 150 :: L) w) : Calls Try.prog 61 #[.pointer (some ⟨bs, 0, none⟩)] w (Ret fun v w' => v = .int .u64 ((hd.base + n : Nat) : Int) ∧ On W0 (blk bs [.pointer (some ⟨b, 0, none⟩), .pointer (some ⟨bt, 0, none⟩), vr, .int .u64 (hd.epoch : Int), .int .u32 (hd.life : Int), .int .i64 (hd.which : Int), .int .u64 (hd.base : Int), .int .i64 (hd.size : Int), .int .u64 (hd.first : Int), .int .i64 (hd.place : Int), sv, .slice a n c] 150 :: L) w') := by
  refine enter Try.func61 rfl Try.ntmps61 rfl ?_
  refine W.seq ?_
  refine W.region ?_
  refine WL.val run_assign rfl rfl ?_
  refine WL.nil ?_
  refine W.seq ?_
  refine W.draw Try.follows h (fun w h => ?_)
  refine WT.pure 0 rfl (by kernel_rfl) (fun w' => run_move) rfl rfl ?_
  refine WT.pure 1 rfl (by kernel_rfl) (fun w' => (run_nilCheck rfl)) rfl rfl ?_
  refine WT.pure 2 rfl (by kernel_rfl) (fun w' => (run_fieldAddr 3 Try.underlying150 rfl Try.sizeOf144 rfl rfl)) rfl rfl ?_
  refine WT.pure 3 rfl (by kernel_rfl) (fun w' => (run_fieldAddr 3 Try.underlying144 rfl Try.sizeOf40 rfl rfl)) rfl rfl ?_
  refine WT.load1 4 rfl (by kernel_rfl) Try.isAgg40 rfl (h.cellB rfl) rfl rfl ?_
  refine WT.pure 5 rfl (by kernel_rfl) (fun w' => run_move) rfl rfl ?_
  refine WT.pure 6 rfl (by kernel_rfl) (fun w' => (run_nilCheck rfl)) rfl rfl ?_
  refine WT.pure 7 rfl (by kernel_rfl) (fun w' => (run_fieldAddr 11 Try.underlying150 rfl Try.sizeOf148 rfl rfl)) rfl rfl ?_
  refine WT.load1 8 rfl (by kernel_rfl) Try.isAgg148 rfl (h.cellB rfl) rfl rfl ?_
  refine WT.pure 9 rfl (by kernel_rfl) (fun w' => (run_lenSlice Try.underlying148 rfl)) rfl rfl ?_
  refine WT.pure 10 rfl (by kernel_rfl) (fun w' => (run_convIn Try.underlying3 Try.underlying40 rfl (by show (0 : Int) ≤ _; omega) (by show _ ≤ (18446744073709551615 : Int); omega))) rfl rfl ?_
  refine WT.pure 11 rfl (by kernel_rfl) (fun w' => (run_addK (k := .u64) (m := hd.base) (n := n) rfl rfl (Int.ofNat_le.2 (show _ ≤ 18446744073709551615 by omega)))) rfl rfl ?_
  refine WT.pure 12 rfl (by kernel_rfl) (fun w' => run_assign) rfl rfl ?_
  refine WT.done (by kernel_rfl) ?_
  refine W.ret ?_
  refine bodyQ.r1 (v := .int .u64 _) Try.results61 rfl ?_
  -- path 
  exact ⟨rfl, h⟩

theorem sjournal_ok {bs b bt lvj : Nat} {hd : Hd} {vr sv lv : Value} {d : Dk} {es : List En} (o : hd.ok) (hp : hd.place < 256) (hfi : hd.first ≤ 4000000000000000000) (J : JI d hd.first hd.place lvj (es.map enB)) (hlv : lvj ≤ hd.life) (hE : ∀ (j : Nat) (e : En), es[j]? = some e → e.idx = hd.base + 1 + j ∧ e.ep < 256 ^ 8 ∧ e.data.length ≤ 2048) (hb : hd.base + es.length < 9000000000000000000) (hs : stE d = 0) (hn : d.n = 354) (h : On W0 (blk bs [.pointer (some ⟨b, 0, none⟩), .pointer (some ⟨bt, 0, none⟩), vr, .int .u64 (hd.epoch : Int), .int .u32 (hd.life : Int), .int .i64 (hd.which : Int), .int .u64 (hd.base : Int), .int .i64 (hd.size : Int), .int .u64 (hd.first : Int), .int .i64 (hd.place : Int), sv, lv] 150 :: DiskP 106 110 b d :: L) w) : Calls Try.prog 102 #[.pointer (some ⟨bs, 0, none⟩)] w (Ret fun v w' => v = .int .i64 0 ∧ ∃ (br : Nat) (al : Option Addr) (cl : Nat) (ws : List EX) (pool : PoolL), ws.map (·.1) = es ∧ EnsOk pool ws ∧ On W0 (blk bs [.pointer (some ⟨b, 0, none⟩), .pointer (some ⟨bt, 0, none⟩), .pointer (some ⟨br, 0, none⟩), .int .u64 (hd.epoch : Int), .int .u32 (hd.life : Int), .int .i64 (hd.which : Int), .int .u64 (hd.base : Int), .int .i64 (hd.size : Int), .int .u64 (hd.first : Int), .int .i64 (hd.place : Int), sv, .slice al es.length cl] 150 :: Own 3 (.slice al es.length cl) es.length (ws.flatMap EX.row) :: Pool pool :: RingP 130 br b (rgF (g0R 98 256 hd.first hd.place hd.life) (es.map enB)) :: DiskP 106 110 b d :: L) w') := by
  refine enter Try.func102 rfl Try.ntmps102 rfl ?_
  obtain ⟨o1, o2, o3, o4, o5, o6, o7⟩ := o
  have hmx := maxLen_eq
  have hml : (es.map enB).length = es.length := List.length_map ..
  have hul := len_used (lvs lvj (es.map enB))
  rw [lvs_used] at hul
  have hju := J.used
  have hll : (lvs lvj (es.map enB)).length = es.length := by unfold lvs; rw [List.length_map, hml]
  have hle : es.length ≤ 256 := by omega
  refine W.seq ?_
  refine W.region ?_
  refine WL.val run_assign rfl rfl ?_
  refine WL.nil ?_
  refine W.scope ?_
  refine W.seq ?_
  refine W.draw Try.follows h (fun w h => ?_)
  refine WT.pure 0 rfl (by kernel_rfl) (fun w' => run_move) rfl rfl ?_
  refine WT.pure 1 rfl (by kernel_rfl) (fun w' => (run_nilCheck rfl)) rfl rfl ?_
  refine WT.pure 2 rfl (by kernel_rfl) (fun w' => (run_fieldAddr 0 Try.underlying150 rfl Try.sizeOf26 rfl rfl)) rfl rfl ?_
  refine WT.load1 3 rfl (by kernel_rfl) Try.isAgg26 rfl (h.cellB rfl) rfl rfl ?_
  refine WT.pure 4 rfl (by kernel_rfl) (fun w' => run_move) rfl rfl ?_
  refine WT.pure 5 rfl (by kernel_rfl) (fun w' => (run_nilCheck rfl)) rfl rfl ?_
  refine WT.pure 6 rfl (by kernel_rfl) (fun w' => (run_fieldAddr 3 Try.underlying150 rfl Try.sizeOf144 rfl rfl)) rfl rfl ?_
  refine WT.pure 7 rfl (by kernel_rfl) (fun w' => (run_fieldAddr 5 Try.underlying144 rfl Try.sizeOf40 rfl rfl)) rfl rfl ?_
  refine WT.load1 8 rfl (by kernel_rfl) Try.isAgg40 rfl (h.cellB rfl) rfl rfl ?_
  refine WT.pure 9 rfl (by kernel_rfl) (fun w' => run_move) rfl rfl ?_
  refine WT.pure 10 rfl (by kernel_rfl) (fun w' => (run_nilCheck rfl)) rfl rfl ?_
  refine WT.pure 11 rfl (by kernel_rfl) (fun w' => (run_fieldAddr 3 Try.underlying150 rfl Try.sizeOf144 rfl rfl)) rfl rfl ?_
  refine WT.pure 12 rfl (by kernel_rfl) (fun w' => (run_fieldAddr 6 Try.underlying144 rfl Try.sizeOf3 rfl rfl)) rfl rfl ?_
  refine WT.load1 13 rfl (by kernel_rfl) Try.isAgg3 rfl (h.cellB rfl) rfl rfl ?_
  refine WT.pure 14 rfl (by kernel_rfl) (fun w' => run_move) rfl rfl ?_
  refine WT.pure 15 rfl (by kernel_rfl) (fun w' => (run_nilCheck rfl)) rfl rfl ?_
  refine WT.pure 16 rfl (by kernel_rfl) (fun w' => (run_fieldAddr 3 Try.underlying150 rfl Try.sizeOf144 rfl rfl)) rfl rfl ?_
  refine WT.pure 17 rfl (by kernel_rfl) (fun w' => (run_fieldAddr 1 Try.underlying144 rfl Try.sizeOf59 rfl rfl)) rfl rfl ?_
  refine WT.load1 18 rfl (by kernel_rfl) Try.isAgg59 rfl (h.cellB rfl) rfl rfl ?_
  refine WT.eff 19 [false, false, false, false] rfl (by kernel_rfl) (by kernel_rfl) (eff_call Try.call34 (ropen_row (at_ := 98) (n := 256) (first := hd.first) (place := hd.place) (life := hd.life) (lvs_bytes lvj (es.map enB)) (J.chain hlv) (by decide) (by decide) (by decide) hp hfi o2 hs (by rw [hn]; decide) (h.fetch (DiskP 106 110 b d)))) rfl rfl ?_
  rintro v32 w ⟨br, az, hv32, h⟩
  rw [hml] at hv32
  subst hv32
  refine ⟨trivial, ?_⟩
  refine WT.pure 20 rfl (by kernel_rfl) (fun w' => run_move) rfl rfl ?_
  refine WT.pure 21 rfl (by kernel_rfl) (fun w' => (run_extract rfl rfl)) rfl rfl ?_
  refine WT.pure 22 rfl (by kernel_rfl) (fun w' => (run_extract rfl rfl)) rfl rfl ?_
  refine WT.pure 23 rfl (by kernel_rfl) (fun w' => (run_extract rfl rfl)) rfl rfl ?_
  refine WT.pure 24 rfl (by kernel_rfl) (fun w' => run_assign) rfl rfl ?_
  refine WT.pure 25 rfl (by kernel_rfl) (fun w' => run_assign) rfl rfl ?_
  refine WT.pure 26 rfl (by kernel_rfl) (fun w' => run_assign) rfl rfl ?_
  refine WT.done (by kernel_rfl) ?_
  refine W.seq ?_
  refine W.seq ?_
  refine W.region ?_
  refine WL.val run_move rfl rfl ?_
  refine WL.val (run_neqF rfl rfl (rfl)) rfl rfl ?_
  refine WL.nil ?_
  refine W.condF rfl ?_
  refine W.skip ?_
  refine W.seq ?_
  refine W.region ?_
  refine WL.val run_move rfl rfl ?_
  refine WL.val run_move rfl rfl ?_
  refine WL.val run_move rfl rfl ?_
  refine WL.val (run_nilCheck rfl) rfl rfl ?_
  refine WL.val (run_fieldAddr 2 Try.underlying150 rfl Try.sizeOf56 rfl rfl) rfl rfl ?_
  refine WL.eff (eff_store (v := .pointer _) h Try.sizeOf56 rfl rfl rfl rfl rfl) rfl rfl ?_
  rintro _ w h
  try simp only [Nat.zero_add, Nat.add_zero, List.set_cons_zero, List.set_cons_succ] at h
  refine WL.val (run_nilCheck rfl) rfl rfl ?_
  refine WL.val (run_fieldAddr 11 Try.underlying150 rfl Try.sizeOf148 rfl rfl) rfl rfl ?_
  refine WL.eff (eff_store (v := .slice _ _ _) h Try.sizeOf148 rfl rfl rfl rfl rfl) rfl rfl ?_
  rintro _ w h
  try simp only [Nat.zero_add, Nat.add_zero, List.set_cons_zero, List.set_cons_succ] at h
  refine WL.nil ?_
  refine W.seq ?_
  refine W.label ?_
  refine W.seq ?_
  refine W.seq ?_
  have ob_ := openO (h.fetch (OutP az (es.map enB).length (es.map enB)))
  obtain ⟨wz, poolz, hwz, hpz, h⟩ := ob_
  rw [hml] at h
  have h := (h.ownEmpty 3 none).pool0
  refine W.region ?_
  refine WL.val run_move rfl rfl ?_
  refine WL.val (run_lenSlice Try.underlying23 rfl) rfl rfl ?_
  refine WL.val run_move rfl rfl ?_
  refine WL.nil ?_
  refine W.block ?_
  refine W.loop (fun (k : Nat) env w => k ≤ es.length ∧ ∃ (j : Env) (al : Option Addr) (cl : Nat) (ws : List EX) (pool : PoolL), ws.map (·.1) = es.take k ∧ EnsOk pool ws ∧ env = mkE j [(0, .pointer (some ⟨bs, 0, none⟩)), (46, .slice az es.length es.length), (47, .int .i64 (es.length : Int)), (48, .int .i64 (k : Nat))] ∧ On W0 (blk bs [.pointer (some ⟨b, 0, none⟩), .pointer (some ⟨bt, 0, none⟩), .pointer (some ⟨br, 0, none⟩), .int .u64 (hd.epoch : Int), .int .u32 (hd.life : Int), .int .i64 (hd.which : Int), .int .u64 (hd.base : Int), .int .i64 (hd.size : Int), .int .u64 (hd.first : Int), .int .i64 (hd.place : Int), sv, .slice al k cl] 150 :: Own 3 (.slice al k cl) k (ws.flatMap EX.row) :: Pool pool :: Own 1 (.slice az es.length es.length) es.length (wz.map (·.1)) :: Pool poolz :: RingP 130 br b (rgF (g0R 98 256 hd.first hd.place hd.life) (es.map enB)) :: DiskP 106 110 b d :: L) w) (fun k => es.length - k) (0) ?_ ?_
  · have h0 : On W0 (blk bs [.pointer (some ⟨b, 0, none⟩), .pointer (some ⟨bt, 0, none⟩), .pointer (some ⟨br, 0, none⟩), .int .u64 (hd.epoch : Int), .int .u32 (hd.life : Int), .int .i64 (hd.which : Int), .int .u64 (hd.base : Int), .int .i64 (hd.size : Int), .int .u64 (hd.first : Int), .int .i64 (hd.place : Int), sv, .slice none 0 0] 150 :: Own 3 (.slice none 0 0) 0 [] :: Pool [] :: Own 1 (.slice az es.length es.length) es.length (wz.map (·.1)) :: Pool poolz :: RingP 130 br b (rgF (g0R 98 256 hd.first hd.place hd.life) (es.map enB)) :: DiskP 106 110 b d :: L) w := h.to
    exact ⟨Nat.zero_le _, _, none, 0, [], [], rfl, (fun x hx => by cases hx), mkE_of ⟨rfl, rfl, rfl, rfl, trivial⟩, h0⟩
  · clear h
    rintro k env w ⟨hk, j, al, cl, ws, pool, hws, hpl, rfl, h⟩
    refine W.seq ?_
    refine W.region ?_
    refine WL.val (run_lss rfl rfl) rfl rfl ?_
    refine WL.nil ?_
    refine W.seq ?_
    refine W.condIf rfl (fun c14 => ?_) (fun c14 => ?_)
    · skip
      refine W.skip ?_
      refine W.seq ?_
      refine W.block ?_
      refine W.seq ?_
      have hk2 : k < es.length := by omega
      have ob_ : ∃ e, es[k]? = some e := ⟨es[k]'hk2, List.getElem?_eq_getElem _⟩
      obtain ⟨e, he⟩ := ob_
      have ob_ := hE k e he
      obtain ⟨hE1, hE2, hE3⟩ := ob_
      have heb : (es.map enB)[k]? = some (enB e) := by rw [List.getElem?_map, he]; rfl
      have ob_ := out_elem hwz hpz heb
      obtain ⟨vq, hvq, hvp⟩ := ob_
      have ob7_ := hvp.form (h.fetch (Pool poolz))
      obtain ⟨aq, cq, hqv, hqc, _⟩ := ob7_
      subst hqv
      have gq := hvp.gives (L := [])
      have ob8_ := Own.addr (h.fetch (Own 1 (.slice az es.length es.length) es.length (wz.map (·.1)))) (by omega)
      obtain ⟨bz1, oz1, haz⟩ := ob8_
      subst haz
      have hi8 : e.idx < 256 ^ 8 := by show e.idx < 18446744073709551616; omega
      have ob_ := en_fields hi8 hE2
      obtain ⟨g1, g2, g3⟩ := ob_
      have hbl := enB_length e
      refine W.region ?_
      refine WL.val (run_indexAddr Try.underlying23 Try.sizeOf22 rfl rfl (by omega) (by omega)) rfl rfl ?_
      refine WL.val (run_load1 Try.isAgg22 rfl ((h.cellsO (v := .slice (some ⟨bz1, oz1, none⟩) es.length es.length)).elem (i := k) (vs := [.slice aq (enB e).length cq]) (by omega) (one_row hvq) 0 _ rfl)) rfl rfl ?_
      refine WL.val run_assign rfl rfl ?_
      refine WL.nil ?_
      refine W.seq ?_
      refine W.region ?_
      refine WL.val run_move rfl rfl ?_
      refine WL.eff (eff_call Try.call80 (bget_ok (at_ := ((0 : Nat) : Int)) (n := ((8 : Nat) : Int)) (bs := enB e) h (Gives.to gq))) rfl rfl ?_
      rintro _ w hg
      rcases hg with ⟨_, hv, h⟩ | ⟨hno, _, _⟩
      rotate_left
      · exact absurd (show _ by omega) hno
      have hv : _ = Value.tuple #[.int .u64 (fieldR (enB e) 0 8 : Int), .bool true] := hv
      rw [g1] at hv
      subst hv
      refine WL.val run_move rfl rfl ?_
      refine WL.val (run_extract rfl rfl) rfl rfl ?_
      refine WL.val (run_extract rfl rfl) rfl rfl ?_
      refine WL.val run_assign rfl rfl ?_
      refine WL.val run_assign rfl rfl ?_
      refine WL.nil ?_
      refine W.seq ?_
      refine W.region ?_
      refine WL.val run_move rfl rfl ?_
      refine WL.eff (eff_call Try.call80 (bget_ok (at_ := ((8 : Nat) : Int)) (n := ((8 : Nat) : Int)) (bs := enB e) h (Gives.to gq))) rfl rfl ?_
      rintro _ w hg
      rcases hg with ⟨_, hv, h⟩ | ⟨hno, _, _⟩
      rotate_left
      · exact absurd (show _ by omega) hno
      have hv : _ = Value.tuple #[.int .u64 (fieldR (enB e) 8 8 : Int), .bool true] := hv
      rw [g2] at hv
      subst hv
      refine WL.val run_move rfl rfl ?_
      refine WL.val (run_extract rfl rfl) rfl rfl ?_
      refine WL.val (run_extract rfl rfl) rfl rfl ?_
      refine WL.val run_assign rfl rfl ?_
      refine WL.val run_assign rfl rfl ?_
      refine WL.nil ?_
      refine W.seq ?_
      refine W.seq ?_
      refine W.region ?_
      refine WL.val run_move rfl rfl ?_
      refine WL.val (run_not rfl) rfl rfl ?_
      refine WL.val run_move rfl rfl ?_
      refine WL.val run_move rfl rfl ?_
      refine WL.val run_move rfl rfl ?_
      refine WL.eff (eff_call Try.call61 (slast_ok (by omega) (by omega) h)) rfl rfl ?_
      rintro _ w ⟨rfl, h⟩
      refine WL.val (run_addK (k := .u64) (m := hd.base + k) (n := 1) rfl rfl (Int.ofNat_le.2 (show _ ≤ 18446744073709551615 by omega))) rfl rfl ?_
      refine WL.val (run_neqF rfl rfl (by rw [hE1]; omega)) rfl rfl ?_
      refine WL.val (run_pickF rfl) rfl rfl ?_
      refine WL.nil ?_
      refine W.condF rfl ?_
      refine W.skip ?_
      have ob_ := cut_bytes (l := 16) (h := (enB e).length) gq hqc (by omega) (Nat.le_refl _)
      obtain ⟨a16, c16, hcut, gD⟩ := ob_
      have hd16 : ((enB e).drop 16).take ((enB e).length - 16) = e.data := by rw [List.take_of_length_le (by rw [List.length_drop]; exact Nat.le_refl _), g3]
      rw [hd16] at hcut gD
      refine W.draw Try.follows h (fun w h => ?_)
      refine WT.pure 0 rfl (by kernel_rfl) (fun w' => run_move) rfl rfl ?_
      refine WT.pure 1 rfl (by kernel_rfl) (fun w' => run_move) rfl rfl ?_
      refine WT.pure 2 rfl (by kernel_rfl) (fun w' => (run_nilCheck rfl)) rfl rfl ?_
      refine WT.pure 3 rfl (by kernel_rfl) (fun w' => (run_fieldAddr 11 Try.underlying150 rfl Try.sizeOf148 rfl rfl)) rfl rfl ?_
      refine WT.load1 4 rfl (by kernel_rfl) Try.isAgg148 rfl (h.cellB rfl) rfl rfl ?_
      refine WT.pure 5 rfl (by kernel_rfl) (fun w' => run_move) rfl rfl ?_
      refine WT.pure 6 rfl (by kernel_rfl) (fun w' => run_move) rfl rfl ?_
      refine WT.pure 7 rfl (by kernel_rfl) (fun w' => run_move) rfl rfl ?_
      refine WT.pure 8 rfl (by kernel_rfl) (fun w' => (run_cutLV (l := 16) Try.underlying22 Try.sizeOf5 rfl rfl (by omega) hcut)) rfl rfl ?_
      refine WT.eff 9 [true] rfl (by kernel_rfl) (by kernel_rfl) (eff_call Try.call68 (clone_bytes h (Gives.to gD) (by omega))) rfl rfl ?_
      rintro _ w ⟨a80, c80, rfl, h⟩
      refine ⟨⟨h.cellB rfl, trivial⟩, ?_⟩
      refine WT.pure 10 rfl (by kernel_rfl) (fun w' => (run_buildS (pl := [(0, 1), (1, 1), (2, 1)]) (out := [.int .u64 _, .int .u64 _, .slice _ _ _]) Try.underlying96 Try.zeroValue96 (fun w => by kernel_rfl) rfl (⟨⟨_, _, rfl, rfl, by decide⟩, ⟨⟨_, _, rfl, rfl, by decide⟩, ⟨⟨_, _, rfl, rfl, by decide⟩, trivial⟩⟩⟩) rfl)) rfl rfl ?_
      refine WT.eff 11 [true] rfl (by kernel_rfl) (by kernel_rfl) (eff_mkSlice (zl := [.int .u64 0, .int .u64 0, .slice none 0 0]) (out := [.int .u64 _, .int .u64 _, .slice _ _ _]) h Try.underlying148 Try.sizeOf96 Try.zeroValue96 (by decide) (by kernel_rfl) rfl rfl (by simp) (⟨⟨_, _, rfl, rfl, by decide⟩, trivial⟩) rfl rfl (by simp [maxLen])) rfl rfl ?_
      rintro _ w ⟨b82, rfl, h⟩
      refine ⟨⟨h.cellB rfl, trivial⟩, ?_⟩
      refine WT.eff 12 [false] rfl (by kernel_rfl) (by kernel_rfl) (eff_app (bytes := 40) (c2 := 1) h rfl rfl (h.cellsO (v := .slice (some ⟨b82, 0, none⟩) 1 1)) Try.underlying148 rfl rfl rfl rfl rfl (by omega) (by omega) (by simp [Value.oneCell'])) rfl rfl ?_
      rintro _ w ⟨a83, c83, rfl, h⟩
      refine ⟨trivial, ?_⟩
      refine WT.pure 13 rfl (by kernel_rfl) (fun w' => (run_nilCheck rfl)) rfl rfl ?_
      refine WT.pure 14 rfl (by kernel_rfl) (fun w' => (run_fieldAddr 11 Try.underlying150 rfl Try.sizeOf148 rfl rfl)) rfl rfl ?_
      refine WT.eff 15 [] rfl (by kernel_rfl) (by kernel_rfl) (eff_store (v := .slice _ _ _) h Try.sizeOf148 rfl rfl rfl rfl rfl) rfl rfl ?_
      rintro _ w h
      try simp only [Nat.zero_add, Nat.add_zero, List.set_cons_zero, List.set_cons_succ] at h
      refine ⟨trivial, ?_⟩
      refine WT.done (by kernel_rfl) ?_
      refine W.region ?_
      refine WL.val (run_incN rfl rfl (by omega)) rfl rfl ?_
      refine WL.val run_move rfl rfl ?_
      refine WL.nil ?_
      -- round, path LT
      have hp2 := ens_push (e := e) (v := .slice a80 e.data.length c80) hws hpl rfl
      obtain ⟨q1, q2, q3⟩ := hp2
      have ht : es.take (k + 1) = es.take k ++ [e] := by rw [List.take_add_one, he]; rfl
      have h2 := On.toPool ((h.fetch (Pool pool)).fetch (OwnB (.slice a80 e.data.length c80) e.data))
      exact ⟨k + 1, ⟨by omega, _, a83, c83, ws ++ [(e, .slice a80 e.data.length c80)], (.slice a80 e.data.length c80, e.data) :: pool, by rw [ht]; exact q1, q2, mkE_of ⟨rfl, rfl, rfl, rfl, trivial⟩, (by rw [q3]; exact h2.to)⟩, by show es.length - (k + 1) < es.length - k; omega⟩
    · skip
      refine W.exit ?_
      refine W.seq ?_
      refine W.region ?_
      refine WL.val run_assign rfl rfl ?_
      refine WL.nil ?_
      refine W.ret ?_
      refine bodyQ.r1 (v := .int .i64 _) Try.results102 rfl ?_
      -- path LF
      have ob_ : k = es.length := by omega
      obtain rfl := ob_
      rw [List.take_length] at hws
      exact ⟨rfl, br, al, cl, ws, pool, hws, hpl, h.to⟩

end Go.Proofs.Ytlahgihjjabgmaa
