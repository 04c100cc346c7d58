/-
  The laws of blocks. Lines of walks printed by a program of the prover's.
-/
import Derived.Test.YtbpcmlekankgmaaSpaceKnown
import Derived.Test.YtbpcmlekankgmaaSpaceEncM
namespace Go.Proofs.Ytbpcmlekankgmaa
open Go Go.Sl Go.Sl.BitM Go.Sl.SpM
set_option linter.unusedVariables false
set_option linter.unusedSimpArgs false
set_option maxHeartbeats 1000000
variable {W0 w : World} {L F : List HProp}

theorem bput_ok {ax : Option Addr} {cx v n : Nat} {bs : List UInt8} (h : On W0 L w) (C : Gives L (Bytes (.slice ax bs.length cx) bs)) (hn1 : 1 ≤ n) (hn8 : n ≤ 8) (hv : v < 18446744073709551616) (hb : bs.length ≤ 140737488350000) : Calls Try.prog 33 #[.slice ax bs.length cx, .int .u64 (v : Int), .int .i64 (n : Int)] (w) (Ret fun r w' => ∃ a, r = .slice a (bs ++ putK v n n).length (bs ++ putK v n n).length ∧ On W0 (OwnB (.slice a (bs ++ putK v n n).length (bs ++ putK v n n).length) (bs ++ putK v n n) :: L) w') := by
  refine enter Try.func33 rfl Try.ntmps33 rfl ?_
  have hmx := maxLen_eq
  refine W.seq ?_
  refine W.region ?_
  refine WL.val run_assign rfl rfl ?_
  refine WL.nil ?_
  refine W.seq ?_
  refine W.region ?_
  refine WL.val run_move rfl rfl ?_
  refine WL.eff (eff_call Try.call32 (clone_bytes h C (by omega))) rfl rfl ?_
  rintro _ w ⟨a10, c10, rfl, h⟩
  refine WL.val run_assign rfl rfl ?_
  refine WL.nil ?_
  refine W.seq ?_
  refine W.seq ?_
  refine W.region ?_
  refine WL.val run_move rfl rfl ?_
  refine WL.val (run_lssF rfl rfl (by omega)) rfl rfl ?_
  refine WL.val run_move rfl rfl ?_
  refine WL.val run_move rfl rfl ?_
  refine WL.val (run_gtrF rfl rfl (by omega)) rfl rfl ?_
  refine WL.val (run_pickF rfl) rfl rfl ?_
  refine WL.nil ?_
  refine W.condF rfl ?_
  refine W.skip ?_
  refine W.seq ?_
  refine W.seq ?_
  refine W.region ?_
  refine WL.val run_move rfl rfl ?_
  refine WL.val (run_subN (m := n) (n := 1) rfl rfl (by omega) (by omega)) rfl rfl ?_
  refine WL.val run_assign rfl rfl ?_
  refine WL.nil ?_
  refine W.block ?_
  refine W.loop (fun (k : Nat) env w => ∃ (j : Env) (ao : Option Addr) (co : Nat) (z : Int), env = mkE j [(1, .int .u64 (v : Int)), (7, .slice ao (bs ++ putK v n k).length co), (8, .int .i64 z)] ∧ k ≤ n ∧ z = (n : Int) - 1 - k ∧ On W0 (OwnB (.slice ao (bs ++ putK v n k).length co) (bs ++ putK v n k) :: L) w) (fun k => n - k) (0) ?_ ?_
  · have e0 : bs ++ putK v n 0 = bs := by simp [putK]
    refine ⟨_, a10, c10, ((n - 1 : Nat) : Int), mkE_of ⟨rfl, (by rw [e0]; rfl), rfl, trivial⟩, Nat.zero_le _, by omega, (by rw [e0]; exact h)⟩
  · rintro k env w ⟨j, ao, co, z, rfl, hk, hz, h⟩
    have hpl : (bs ++ putK v n k).length = bs.length + k := by rw [List.length_append, putK_length]
    refine W.seq ?_
    refine W.seq ?_
    refine W.region ?_
    refine WL.val run_move rfl rfl ?_
    refine WL.val (run_geq rfl rfl) rfl rfl ?_
    refine WL.nil ?_
    refine W.condIf rfl (fun c11 => ?_) (fun c11 => ?_)
    · skip
      refine W.skip ?_
      refine W.seq ?_
      refine W.block ?_
      have ob_ := Int.eq_ofNat_of_zero_le (show 0 ≤ z by omega)
      obtain ⟨q, rfl⟩ := ob_
      have hq : n - 1 - k = q := by omega
      have e1 : bs ++ putK v n (k + 1) = (bs ++ putK v n k) ++ [UInt8.ofNat (v / 2 ^ (8 * q))] := by rw [putK_succ, hq, List.append_assoc]
      have el : (bs ++ putK v n (k + 1)).length = (bs ++ putK v n k).length + 1 := by rw [e1, List.length_append]; rfl
      refine W.region ?_
      refine WL.val run_move rfl rfl ?_
      refine WL.val run_move rfl rfl ?_
      refine WL.val run_move rfl rfl ?_
      refine WL.val (run_mulN (m := 8) (n := q) rfl rfl (by omega)) rfl rfl ?_
      refine WL.val (run_shrN (m := v) (j := 8 * q) rfl rfl (by show 8 * q ≤ 64; omega)) rfl rfl ?_
      refine WL.val (run_convByte Try.underlying59 Try.underlying5 rfl) rfl rfl ?_
      refine WL.eff (eff_mkSlice (zl := [.int .u8 0]) (out := [.int .u8 _]) h Try.underlying22 Try.sizeOf5 Try.zeroValue5 (by decide) (by kernel_rfl) rfl rfl (by simp) (⟨⟨_, _, rfl, rfl, by decide⟩, trivial⟩) rfl rfl (by simp [maxLen])) rfl rfl ?_
      rintro _ w ⟨b30, rfl, h⟩
      refine WL.eff (eff_app (c2 := 1) (bytes := 1) h rfl rfl (h.cellsO (v := .slice (some ⟨b30, 0, none⟩) 1 1)) Try.underlying22 rfl rfl rfl rfl rfl (by omega) (by omega) (by simp [Value.oneCell'])) rfl rfl ?_
      rintro _ w ⟨a31, c31, rfl, h⟩
      have hbv : bytesV (bs ++ putK v n k) ++ [.int .u8 (((UInt8.ofNat (v / 2 ^ (8 * q))).toNat : Nat) : Int)] = bytesV ((bs ++ putK v n k) ++ [UInt8.ofNat (v / 2 ^ (8 * q))]) := by simp [bytesV, byteV]
      have h : On W0 (Own 1 (.slice a31 ((bs ++ putK v n k).length + 1) c31) ((bs ++ putK v n k).length + 1) (bytesV (bs ++ putK v n k) ++ [.int .u8 (((UInt8.ofNat (v / 2 ^ (8 * q))).toNat : Nat) : Int)]) :: _) w := h
      rw [hbv] at h
      refine WL.val run_assign rfl rfl ?_
      refine WL.nil ?_
      refine W.region ?_
      refine WL.val run_move rfl rfl ?_
      refine WL.val (run_sub rfl rfl (by omega) (by omega)) rfl rfl ?_
      refine WL.val run_assign rfl rfl ?_
      refine WL.nil ?_
      -- round, path LT
      exact ⟨k + 1, ⟨_, a31, c31, (q : Int) - 1, mkE_of ⟨rfl, (by rw [el]; rfl), rfl, trivial⟩, by omega, by omega, (by unfold OwnB; rw [el, e1]; exact h.to)⟩, by show n - (k + 1) < n - k; omega⟩
    · skip
      refine W.exit ?_
      refine W.seq ?_
      refine W.region ?_
      refine WL.val run_move rfl rfl ?_
      refine WL.eff (eff_call Try.call31 (clip_bytes h)) rfl rfl ?_
      rintro _ w ⟨rfl, h⟩
      refine WL.val run_assign rfl rfl ?_
      refine WL.nil ?_
      refine W.ret ?_
      refine bodyQ.r1 (v := .slice _ _ _) Try.results33 rfl ?_
      -- path LF
      have ob_ : k = n := by omega
      obtain rfl := ob_
      exact ⟨ao, rfl, h⟩

theorem encode_ok {b : Nat} {s : Sp} (hcap : capS s) (h : On W0 (SpP 55 b s :: L) w) : Calls Try.prog 20 #[.pointer (some ⟨b, 0, none⟩)] w (Ret fun v w' => ∃ a, v = .slice a (encS s).length (encS s).length ∧ On W0 (OwnB (.slice a (encS s).length (encS s).length) (encS s) :: SpP 55 b s :: L) w') := by
  refine enter Try.func20 rfl Try.ntmps20 rfl ?_
  have ob_ := openS h
  obtain ⟨gd, od, cd, am, cm, hw, h⟩ := ob_
  have hwf := hw
  obtain ⟨hw1, hw2, hw3, hw4⟩ := hw
  have ob_ := Own.bounds h.p1
  obtain ⟨hdc, hdm⟩ := ob_
  have hmx := maxLen_eq
  have e0 : encK s 0 = [] ++ putK s.N 2 2 ++ s.m := by simp [encK]
  refine W.seq ?_
  refine W.region ?_
  refine WL.val run_assign rfl rfl ?_
  refine WL.nil ?_
  refine W.seq ?_
  refine W.draw Try.follows h (fun w h => ?_)
  refine WT.pure 0 rfl (by kernel_rfl) (fun w' => run_move) rfl rfl ?_
  refine WT.pure 1 rfl (by kernel_rfl) (fun w' => (run_nilCheck rfl)) rfl rfl ?_
  refine WT.pure 2 rfl (by kernel_rfl) (fun w' => (run_fieldAddr 0 Try.underlying55 rfl Try.sizeOf3 rfl rfl)) rfl rfl ?_
  refine WT.load1 3 rfl (by kernel_rfl) Try.isAgg3 rfl (h.cellB rfl) rfl rfl ?_
  refine WT.pure 4 rfl (by kernel_rfl) (fun w' => (run_convIn Try.underlying3 Try.underlying59 rfl (by show (0 : Int) ≤ _; omega) (by show _ ≤ (18446744073709551615 : Int); omega))) rfl rfl ?_
  refine WT.pure 6 rfl (by kernel_rfl) (fun w' => run_move) rfl rfl ?_
  refine WT.pure 7 rfl (by kernel_rfl) (fun w' => (run_nilCheck rfl)) rfl rfl ?_
  refine WT.pure 8 rfl (by kernel_rfl) (fun w' => (run_fieldAddr 2 Try.underlying55 rfl Try.sizeOf25 rfl rfl)) rfl rfl ?_
  refine WT.load1 9 rfl (by kernel_rfl) Try.isAgg25 rfl (h.cellB rfl) rfl rfl ?_
  refine WT.eff 5 [true, false] rfl (by kernel_rfl) (by kernel_rfl) (eff_call Try.call33 (bput_ok (ax := none) (cx := 0) (bs := []) (v := s.N) (n := 2) h Gives.nilB (by decide) (by decide) (by omega) (by decide))) rfl rfl ?_
  rintro _ w ⟨a11, hv, h⟩
  have ob_ : ∃ pb, pb = [] ++ putK s.N 2 2 := ⟨_, rfl⟩
  obtain ⟨pb, hpb⟩ := ob_
  rw [← hpb] at hv h e0
  subst hv
  have hpbl : pb.length = 2 := by rw [hpb, List.nil_append, putK_length]
  refine ⟨⟨h.cellB rfl, trivial⟩, ?_⟩
  refine WT.eff 10 [false] rfl (by kernel_rfl) (by kernel_rfl) (eff_appT (bytes := 1) h rfl rfl (h.cellsO (v := .slice am s.m.length cm)) Try.underlying22 Try.underlying25 rfl rfl rfl rfl rfl (by omega) (by omega) bytes_one) rfl rfl ?_
  rintro _ w ⟨a16, c16, hv, h⟩
  have hbv : bytesV pb ++ bytesV s.m = bytesV (encK s 0) := by rw [e0]; simp [bytesV]
  have hel : pb.length + s.m.length = (encK s 0).length := by rw [e0, List.length_append]
  rw [hel] at hv h
  rw [hbv] at h
  subst hv
  refine ⟨trivial, ?_⟩
  refine WT.pure 11 rfl (by kernel_rfl) (fun w' => run_assign) rfl rfl ?_
  refine WT.done (by kernel_rfl) ?_
  refine W.seq ?_
  refine W.seq ?_
  refine W.region ?_
  refine WL.val run_move rfl rfl ?_
  refine WL.val (run_nilCheck rfl) rfl rfl ?_
  refine WL.val (run_fieldAddr 2 Try.underlying55 rfl Try.sizeOf25 rfl rfl) rfl rfl ?_
  refine WL.val (run_load1 Try.isAgg25 rfl (h.cellB rfl)) rfl rfl ?_
  refine WL.eff (eff_call Try.call9 (runs_ok (m := s.m) h (Gives.ownO (v := .slice am s.m.length cm)) (by omega))) rfl rfl ?_
  rintro _ w ⟨Rr, ar, rfl, rfl, hR, h⟩
  have hle := encK_le hwf hcap hR
  refine WL.val (run_lenSlice Try.underlying24 rfl) rfl rfl ?_
  refine WL.val run_move rfl rfl ?_
  refine WL.nil ?_
  refine W.block ?_
  refine W.loop (fun (k : Nat) env w => ∃ (j : Env) (ao : Option Addr) (co : Nat), env = mkE j [(0, .pointer (some ⟨b, 0, none⟩)), (3, .slice ao (encK s k).length co), (21, .slice ar (rowsOf s.m).length (rowsOf s.m).length), (22, .int .i64 (((rowsOf s.m).length : Nat) : Int)), (23, .int .i64 (k : Int))] ∧ k ≤ (rowsOf s.m).length ∧ On W0 (OwnB (.slice ao (encK s k).length co) (encK s k) :: Own 2 (.slice ar (rowsOf s.m).length (rowsOf s.m).length) (rowsOf s.m).length ((rowsOf s.m).flatMap rowc) :: blk b [.int .i64 (s.N : Int), .slice (some ⟨gd, od, none⟩) (8 * s.N) cd, .slice am s.m.length cm] 55 :: Own 1 (.slice (some ⟨gd, od, none⟩) (8 * s.N) cd) (8 * s.N) (bytesV s.d) :: Own 1 (.slice am s.m.length cm) s.m.length (bytesV s.m) :: L) w) (fun k => (rowsOf s.m).length - k) (0) ?_ ?_
  · exact ⟨_, a16, c16, mkE_of ⟨rfl, rfl, rfl, rfl, rfl, trivial⟩, Nat.zero_le _, h.to⟩
  · rintro k env w ⟨j, ao, co, rfl, hk, h⟩
    have hlk := hle k
    have hfew := hR.few
    refine W.seq ?_
    refine W.region ?_
    refine WL.val (run_lss rfl rfl) rfl rfl ?_
    refine WL.nil ?_
    refine W.seq ?_
    refine W.condIf rfl (fun c6 => ?_) (fun c6 => ?_)
    · skip
      refine W.skip ?_
      refine W.seq ?_
      refine W.block ?_
      refine W.seq ?_
      have hkl : k < (rowsOf s.m).length := by omega
      have ob_ : ∃ r, (rowsOf s.m)[k]? = some r := ⟨(rowsOf s.m)[k], by simp⟩
      obtain ⟨r, hr⟩ := ob_
      have hrc := rows_cap hcap hR (List.mem_of_getElem? hr)
      have e1 : encK s (k + 1) = encK s k ++ partS s r.1 r.2 := encK_succ hr
      have hlk1 := hle (k + 1)
      have hpl : (partS s r.1 r.2).length = (r.1 + r.2) * 8 - r.1 * 8 := by rw [partS_length hwf hrc]; omega
      have el : (encK s (k + 1)).length = (encK s k).length + (partS s r.1 r.2).length := by rw [e1, List.length_append]
      have ob_ := sliced_part (b := gd) (o := od) (show r.1 * 8 ≤ (r.1 + r.2) * 8 by omega) (show (r.1 + r.2) * 8 ≤ cd by omega)
      obtain ⟨lo, hlo, hlo2⟩ := ob_
      have haa := (h.cellsO (v := .slice ar (rowsOf s.m).length (rowsOf s.m).length)).addr (by omega)
      obtain ⟨br, or_, har⟩ := haa
      subst har
      have CP : ∀ L' : List HProp, Gives L' (Cells 1 (.slice (some ⟨gd, od, none⟩) (8 * s.N) cd) (8 * s.N) (bytesV s.d)) → Gives L' (Bytes (.slice (some ⟨gd, od + lo, none⟩) (partS s r.1 r.2).length (cd - r.1 * 8)) (partS s r.1 r.2)) := fun L' gg hh H => by
        have c1 := (gg hh H).cut (l := r.1 * 8) (h := (r.1 + r.2) * 8) (m := cd) (by omega) (by omega) (by omega) (by omega)
        rw [hlo, ← hpl] at c1
        have e1 : ((bytesV s.d).drop (r.1 * 8 * 1)).take ((partS s r.1 r.2).length * 1) = bytesV (partS s r.1 r.2) := by
          rw [hpl, Nat.mul_one, Nat.mul_one]
          unfold partS bytesV
          rw [List.map_take, List.map_drop, Nat.mul_comm r.1 8, show (r.1 + r.2) * 8 - 8 * r.1 = 8 * r.2 by omega]
        rw [e1] at c1
        exact c1
      refine W.region ?_
      refine WL.val (run_indexAddr Try.underlying24 Try.sizeOf28 rfl rfl (by omega) (by omega)) rfl rfl ?_
      refine WL.val (run_loadN Try.isAgg28 Try.sizeOf28 rfl rfl ((h.cellsO (v := .slice (some ⟨br, or_, none⟩) (rowsOf s.m).length (rowsOf s.m).length)).elem (i := k) (vs := rowc r) hkl (drop_flatMap rowc 2 rowc_length (rowsOf s.m) _ _ hr))) rfl rfl ?_
      refine WL.eff (eff_alloc h Try.zeroValue28 rfl) rfl rfl ?_
      rintro _ w ⟨b5, rfl, h⟩
      refine WL.eff (eff_storeN (vs := rowc r) h Try.sizeOf28 rfl rfl rfl rfl rfl (fun k _ _ => free0 k)) rfl rfl ?_
      rintro _ w h
      have h : On W0 (blk b5 (rowc r) 28 :: _) w := h
      refine WL.nil ?_
      refine W.region ?_
      refine WL.val run_move rfl rfl ?_
      refine WL.val run_move rfl rfl ?_
      refine WL.val (run_indexAddrArr Try.underlying28 Try.sizeOf3 rfl rfl (by omega) (by omega)) rfl rfl ?_
      refine WL.val (run_load1 Try.isAgg3 rfl (h.cellB rfl)) rfl rfl ?_
      refine WL.val (run_indexAddrArr Try.underlying28 Try.sizeOf3 rfl rfl (by omega) (by omega)) rfl rfl ?_
      refine WL.val (run_load1 Try.isAgg3 rfl (h.cellB rfl)) rfl rfl ?_
      refine WL.eff (eff_call Try.call30 (part_ok (at_ := r.1) (n := r.2) hw3 hrc hdc h)) rfl rfl ?_
      rintro _ w ⟨hv, h⟩
      rw [hlo, ← hpl] at hv
      subst hv
      refine WL.eff (eff_app (bytes := 1) h rfl rfl (CP _ (Gives.ownO (v := .slice (some ⟨gd, od, none⟩) (8 * s.N) cd)) _ h.sat) Try.underlying22 rfl rfl rfl rfl rfl (by omega) (by omega) bytes_one) rfl rfl ?_
      rintro _ w ⟨a34, c34, rfl, h⟩
      have hbv : bytesV (encK s k) ++ bytesV (partS s r.1 r.2) = bytesV (encK s k ++ partS s r.1 r.2) := by simp [bytesV]
      rw [hbv] at h
      refine WL.val run_assign rfl rfl ?_
      refine WL.nil ?_
      refine W.region ?_
      refine WL.val (run_incN rfl rfl (by omega)) rfl rfl ?_
      refine WL.val run_move rfl rfl ?_
      refine WL.nil ?_
      -- round, path LT
      exact ⟨k + 1, ⟨_, a34, c34, mkE_of ⟨rfl, (by rw [el]; rfl), rfl, rfl, rfl, trivial⟩, by omega, (by unfold OwnB; rw [el, e1]; exact h.to)⟩, by show (rowsOf s.m).length - (k + 1) < (rowsOf s.m).length - k; omega⟩
    · skip
      refine W.exit ?_
      refine W.seq ?_
      refine W.region ?_
      refine WL.val run_move rfl rfl ?_
      refine WL.eff (eff_call Try.call31 (clip_bytes h)) rfl rfl ?_
      rintro _ w ⟨rfl, h⟩
      refine WL.val run_assign rfl rfl ?_
      refine WL.nil ?_
      refine W.ret ?_
      refine bodyQ.r1 (v := .slice _ _ _) Try.results20 rfl ?_
      -- path LF
      have ob_ : k = (rowsOf s.m).length := by omega
      obtain rfl := ob_
      exact ⟨ao, rfl, (closeS (cd := cd) (cm := cm) (gd := gd) (od := od) (am := am) hwf h.p1.tail.p3.p3.p3).p1⟩

end Go.Proofs.Ytbpcmlekankgmaa
