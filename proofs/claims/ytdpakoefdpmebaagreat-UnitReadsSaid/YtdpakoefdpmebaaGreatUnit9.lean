/-
  A unit: what is written: the contracts. Lines of walks printed by a program of the prover's.
-/
import Derived.Test.YtdpakoefdpmebaaGreatSeq
import Derived.Test.YtdpakoefdpmebaaGreatSpaceEncM
namespace Go.Proofs.YtdpakoefdpmebaaGreat
open Go Go.Sl Go.Sl.BitM Go.Sl.SpM Go.Sl.RsM Go.Sl.ByM Go.Sl.UnM
set_option linter.unusedVariables false
set_option linter.unusedSimpArgs false
set_option maxHeartbeats 1000000
set_option maxRecDepth 8000
variable {W0 w : World} {L F : List HProp}

theorem upart_ok {ab av : Option Addr} {cb cv : Nat} {bs vs : List UInt8} (hb : bs.length ≤ 1000000000000) (hv : vs.length ≤ 1000000000000) (h : On W0 L w) (C : Gives L (Bytes (.slice ab bs.length cb) bs)) (C2 : Gives L (Bytes (.slice av vs.length cv) vs)) : Calls Tryz.prog 75 #[.slice ab bs.length cb, .slice av vs.length cv] w (Ret fun v w' => ∃ a c, v = .slice a (partB bs vs).length c ∧ On W0 (OwnB (.slice a (partB bs vs).length c) (partB bs vs) :: L) w') := by
  refine enter Tryz.func75 rfl Tryz.ntmps75 rfl ?_
  have hmx := maxLen_eq
  have hl1 : (bs ++ be vs.length 4).length = bs.length + 4 := by rw [List.length_append, be_length]
  refine W.seq ?_
  refine W.region ?_
  refine WL.val run_assign rfl rfl ?_
  refine WL.nil ?_
  refine W.seq ?_
  refine W.region ?_
  refine WL.val run_move rfl rfl ?_
  refine WL.val run_move rfl rfl ?_
  refine WL.val (run_lenSlice Tryz.underlying22 rfl) rfl rfl ?_
  refine WL.val (run_convIn Tryz.underlying3 Tryz.underlying23 rfl (by show (0 : Int) ≤ _; omega) (by show _ ≤ (18446744073709551615 : Int); omega)) rfl rfl ?_
  refine WL.eff (eff_call Tryz.call87 (bput_ok (v := vs.length) (n := 4) h (Gives.to C) (by decide) (by decide) (by omega) (by omega))) rfl rfl ?_
  rintro _ w ⟨a9, rfl, h⟩
  refine WL.val run_move rfl rfl ?_
  refine WL.eff (eff_app (bytes := 1) h rfl rfl (h.readsTo C2) Tryz.underlying22 rfl rfl rfl rfl rfl (by omega) (by omega) bytes_one) rfl rfl ?_
  rintro _ w ⟨a11, c11, rfl, h⟩
  have e2 : bytesV (bs ++ be vs.length 4) ++ bytesV vs = bytesV (partB bs vs) := (List.map_append ..).symm
  have e3 : (bs ++ be vs.length 4).length + vs.length = (partB bs vs).length := (List.length_append ..).symm
  rw [e2, e3] at h
  refine WL.val run_assign rfl rfl ?_
  refine WL.nil ?_
  refine W.ret ?_
  refine bodyQ.r1 (v := .slice _ _ _) Tryz.results75 rfl ?_
  -- path 
  exact ⟨a11, c11, congrArg (fun q => Value.slice a11 q c11) e3, h.to⟩


theorem byte_wrap (z : Int) : IntKind.wrap .u8 z = ((byteI z).toNat : Int) := by
  have h1 : IntKind.wrap .u8 z = z % 256 := by simp [IntKind.wrap, IntKind.signed, IntKind.bits]
  rw [h1]
  unfold byteI
  rw [UInt8.toNat_ofNat']
  omega
theorem run_convByteI {P : Program} {ρ : Operand → Value} {d : Option Nat} {ty : TypeId} {pos : String} {af : Array Edge} {g : Option (Nat × Bool)} {s t : TypeId} {x : Operand} {j : IntKind} {n : Int} {ds : TypeDesc} (hs : P.underlying s = some ds) (ht : P.underlying t = some (.int .u8)) (hx : ρ x = .int j n) :
    (execOp ρ ⟨d, .convert s t x, ty, pos, af, g⟩).run P w = .ok (.value (.int .u8 ((byteI n).toNat : Int))) w := by
  rw [run_convInt hs ht hx, byte_wrap]

theorem rencode_ok {b : Nat} {t : Tb} (ht : okT t) (h : On W0 (blk b t.cells 152 :: L) w) : Calls Tryz.prog 77 #[.pointer (some ⟨b, 0, none⟩)] w (Ret fun v w' => ∃ a c, v = .slice a (encT t).length c ∧ On W0 (OwnB (.slice a (encT t).length c) (encT t) :: blk b t.cells 152 :: L) w') := by
  refine enter Tryz.func77 rfl Tryz.ntmps77 rfl ?_
  have hmx := maxLen_eq
  obtain ⟨hk, hg1, hg2⟩ := ht
  have eg : t.gen = ((t.gen.toNat : Nat) : Int) := by omega
  have e0 : [] ++ be t.gen.toNat 4 = (encTK t 0) := by unfold encTK; simp
  refine W.seq ?_
  refine W.region ?_
  refine WL.val run_assign rfl rfl ?_
  refine WL.nil ?_
  refine W.seq ?_
  refine W.region ?_
  refine WL.val run_move rfl rfl ?_
  refine WL.val (run_nilCheck rfl) rfl rfl ?_
  refine WL.val (run_fieldAddr 10 Tryz.underlying152 rfl Tryz.sizeOf126 rfl rfl) rfl rfl ?_
  refine WL.val (run_load1 Tryz.isAgg126 rfl (h.cellB rfl)) rfl rfl ?_
  refine WL.val (run_convIn (n := ((t.gen.toNat : Nat) : Int)) Tryz.underlying126 Tryz.underlying23 (congrArg (Value.int .u32) eg) (by show (0 : Int) ≤ _; omega) (by show _ ≤ (18446744073709551615 : Int); omega)) rfl rfl ?_
  refine WL.eff (eff_call Tryz.call87 (bput_ok (ax := none) (cx := 0) (bs := []) (v := t.gen.toNat) (n := 4) h Gives.nilB (by decide) (by decide) (by omega) (by decide))) rfl rfl ?_
  rintro _ w ⟨a11, hv, h⟩
  rw [e0] at hv h
  subst hv
  refine WL.val run_assign rfl rfl ?_
  refine WL.nil ?_
  refine W.seq ?_
  refine W.seq ?_
  refine W.region ?_
  refine WL.val run_move rfl rfl ?_
  refine WL.val (run_nilCheck rfl) rfl rfl ?_
  refine WL.val (run_fieldAddr 0 Tryz.underlying152 rfl Tryz.sizeOf102 rfl rfl) rfl rfl ?_
  refine WL.val (run_loadB (vs := [.int .u64 _, .int .u64 _, .int .u64 _, .int .u64 _, .int .u64 _, .int .u64 _, .int .u64 _, .int .u64 _]) h Tryz.isAgg102 Tryz.sizeOf102 rfl rfl rfl) rfl rfl ?_
  refine WL.val run_move rfl rfl ?_
  refine WL.nil ?_
  refine W.block ?_
  refine W.loop (fun (k : Nat) env w => k ≤ 8 ∧ ∃ (j : Env) (ao : Option Addr) (co : Nat), env = mkE j [(0, .pointer (some ⟨b, 0, none⟩)), (3, .slice ao (encTK t k).length co), (15, .agg (keysV t.K).toArray), (16, .int .i64 (k : Int))] ∧ On W0 (OwnB (.slice ao (encTK t k).length co) (encTK t k) :: blk b t.cells 152 :: L) w) (fun k => 8 - k) (0) ?_ ?_
  · exact ⟨Nat.zero_le _, _, a11, _, mkE_of ⟨rfl, rfl, rfl, rfl, trivial⟩, h.to⟩
  · rintro k env w ⟨hk8, j, ao, co, rfl, h⟩
    have hlk := encTK_len t k
    refine W.seq ?_
    refine W.region ?_
    refine WL.val (run_lss rfl rfl) rfl rfl ?_
    refine WL.nil ?_
    refine W.seq ?_
    refine W.condIf rfl (fun c6 => ?_) (fun c6 => ?_)
    · skip
      refine W.skip ?_
      refine W.seq ?_
      have hk7 : k < 8 := by omega
      have hkk := hk k hk7
      have ek : t.K k = (((t.K k).toNat : Nat) : Int) := by omega
      refine W.block ?_
      refine W.seq ?_
      refine W.region ?_
      refine WL.val (run_indexArr Tryz.underlying102 Tryz.sizeOf23 Tryz.isAgg23 rfl rfl (by omega) (by omega) ((keysV_key (i := k) hk7).trans (congrArg (fun q => some (Value.int .u64 q)) ek))) rfl rfl ?_
      refine WL.val run_assign rfl rfl ?_
      refine WL.nil ?_
      refine W.region ?_
      refine WL.val run_move rfl rfl ?_
      refine WL.val run_move rfl rfl ?_
      refine WL.eff (eff_call Tryz.call87 (bput_ok (v := (t.K k).toNat) (n := 8) (bs := (encTK t k)) h (Gives.ownO (v := .slice ao (encTK t k).length co)) (by decide) (by decide) (by omega) (by omega))) rfl rfl ?_
      rintro _ w ⟨a21, rfl, h⟩
      refine WL.val run_assign rfl rfl ?_
      refine WL.nil ?_
      refine W.region ?_
      refine WL.val (run_incN rfl rfl (by omega)) rfl rfl ?_
      refine WL.val run_move rfl rfl ?_
      refine WL.nil ?_
      -- round, path LT
      rw [← encTK_succ] at h
      exact ⟨k + 1, ⟨by omega, _, a21, _, mkE_of ⟨rfl, congrArg (fun q : List UInt8 => Value.slice a21 q.length q.length) (encTK_succ t k).symm, rfl, rfl, trivial⟩, h.to⟩, by show 8 - (k + 1) < 8 - k; omega⟩
    · skip
      refine W.exit ?_
      refine W.seq ?_
      refine W.draw Tryz.follows h (fun w h => ?_)
      refine WT.pure 0 rfl (by kernel_rfl) (fun w' => run_move) rfl rfl ?_
      refine WT.pure 1 rfl (by kernel_rfl) (fun w' => run_move) rfl rfl ?_
      refine WT.pure 2 rfl (by kernel_rfl) (fun w' => (run_nilCheck rfl)) rfl rfl ?_
      refine WT.pure 3 rfl (by kernel_rfl) (fun w' => (run_fieldAddr 8 Tryz.underlying152 rfl Tryz.sizeOf3 rfl rfl)) rfl rfl ?_
      refine WT.load1 4 rfl (by kernel_rfl) Tryz.isAgg3 rfl (h.cellB rfl) rfl rfl ?_
      refine WT.pure 5 rfl (by kernel_rfl) (fun w' => (run_convByteI Tryz.underlying3 Tryz.underlying5 rfl)) rfl rfl ?_
      refine WT.pure 6 rfl (by kernel_rfl) (fun w' => run_move) rfl rfl ?_
      refine WT.pure 7 rfl (by kernel_rfl) (fun w' => (run_nilCheck rfl)) rfl rfl ?_
      refine WT.pure 8 rfl (by kernel_rfl) (fun w' => (run_fieldAddr 9 Tryz.underlying152 rfl Tryz.sizeOf3 rfl rfl)) rfl rfl ?_
      refine WT.load1 9 rfl (by kernel_rfl) Tryz.isAgg3 rfl (h.cellB rfl) rfl rfl ?_
      refine WT.pure 10 rfl (by kernel_rfl) (fun w' => (run_convByteI Tryz.underlying3 Tryz.underlying5 rfl)) rfl rfl ?_
      refine WT.eff 11 [false, false] rfl (by kernel_rfl) (by kernel_rfl) (eff_mkSlice (zl := [.int .u8 0, .int .u8 0]) (out := [.int .u8 _, .int .u8 _]) h Tryz.underlying22 Tryz.sizeOf5 Tryz.zeroValue5 (by decide) (by kernel_rfl) rfl rfl (by simp) (⟨⟨_, _, rfl, rfl, by decide⟩, ⟨⟨_, _, rfl, rfl, by decide⟩, trivial⟩⟩) rfl rfl (by simp [maxLen])) rfl rfl ?_
      rintro _ w ⟨b34, rfl, h⟩
      refine ⟨trivial, ?_⟩
      refine WT.eff 12 [] rfl (by kernel_rfl) (by kernel_rfl) (eff_app (c2 := 2) (bytes := 1) h rfl rfl (h.cellsO (v := .slice (some ⟨b34, 0, none⟩) 2 2)) Tryz.underlying22 rfl rfl rfl rfl rfl (by omega) (by omega) (by simp [Value.oneCell'])) rfl rfl ?_
      rintro _ w ⟨a35, c35, hv35, h⟩
      have e2 : bytesV (encTK t k) ++ [.int .u8 ((byteI t.hold).toNat : Int), .int .u8 ((byteI t.typ).toNat : Int)] = bytesV ((encTK t k) ++ [byteI t.hold, byteI t.typ]) := by simp [bytesV, byteV]
      have e3 : (encTK t k).length + 2 = ((encTK t k) ++ [byteI t.hold, byteI t.typ]).length := by rw [List.length_append]; rfl
      have h : On W0 (Own 1 (.slice a35 ((encTK t k).length + 2) c35) ((encTK t k).length + 2) (bytesV (encTK t k) ++ [.int .u8 ((byteI t.hold).toNat : Int), .int .u8 ((byteI t.typ).toNat : Int)]) :: _) w := h
      rw [e2, e3] at h
      rw [e3] at hv35
      subst hv35
      refine ⟨trivial, ?_⟩
      refine WT.pure 13 rfl (by kernel_rfl) (fun w' => run_assign) rfl rfl ?_
      refine WT.done (by kernel_rfl) ?_
      refine W.ret ?_
      refine bodyQ.r1 (v := .slice _ _ _) Tryz.results77 rfl ?_
      -- path LF
      have ob_ : k = 8 := by omega
      obtain rfl := ob_
      have h : On W0 (OwnB (.slice a35 (encT t).length c35) (encT t) :: _) w := h
      exact ⟨a35, c35, rfl, h.to⟩

theorem sencode_ok {b : Nat} {s : Sp} (hcap : capS s) (h : On W0 (SpP 146 b s :: L) w) : Calls Tryz.prog 76 #[.pointer (some ⟨b, 0, none⟩)] w (Ret fun v w' => ∃ a, v = .slice a (encS s).length (encS s).length ∧ On W0 (OwnB (.slice a (encS s).length (encS s).length) (encS s) :: SpP 146 b s :: L) w') := by
  refine enter Tryz.func76 rfl Tryz.ntmps76 rfl ?_
  have ob_ := openS h
  obtain ⟨gd, od, cd, am, cm, hw, h⟩ := ob_
  have hwf := hw
  obtain ⟨hw1, hw2, hw3, hw4⟩ := hw
  have ob_ := Own.bounds h.p1
  obtain ⟨hdc, hdm⟩ := ob_
  have hmx := maxLen_eq
  have e0 : encK s 0 = [] ++ SpM.putK s.N 2 2 ++ s.m := by simp [encK]
  refine W.seq ?_
  refine W.region ?_
  refine WL.val run_assign rfl rfl ?_
  refine WL.nil ?_
  refine W.seq ?_
  refine W.draw Tryz.follows h (fun w h => ?_)
  refine WT.pure 0 rfl (by kernel_rfl) (fun w' => run_move) rfl rfl ?_
  refine WT.pure 1 rfl (by kernel_rfl) (fun w' => (run_nilCheck rfl)) rfl rfl ?_
  refine WT.pure 2 rfl (by kernel_rfl) (fun w' => (run_fieldAddr 0 Tryz.underlying146 rfl Tryz.sizeOf3 rfl rfl)) rfl rfl ?_
  refine WT.load1 3 rfl (by kernel_rfl) Tryz.isAgg3 rfl (h.cellB rfl) rfl rfl ?_
  refine WT.pure 4 rfl (by kernel_rfl) (fun w' => (run_convIn Tryz.underlying3 Tryz.underlying23 rfl (by show (0 : Int) ≤ _; omega) (by show _ ≤ (18446744073709551615 : Int); omega))) rfl rfl ?_
  refine WT.pure 6 rfl (by kernel_rfl) (fun w' => run_move) rfl rfl ?_
  refine WT.pure 7 rfl (by kernel_rfl) (fun w' => (run_nilCheck rfl)) rfl rfl ?_
  refine WT.pure 8 rfl (by kernel_rfl) (fun w' => (run_fieldAddr 2 Tryz.underlying146 rfl Tryz.sizeOf144 rfl rfl)) rfl rfl ?_
  refine WT.load1 9 rfl (by kernel_rfl) Tryz.isAgg144 rfl (h.cellB rfl) rfl rfl ?_
  refine WT.eff 5 [true, false] rfl (by kernel_rfl) (by kernel_rfl) (eff_call Tryz.call87 (bput_ok (ax := none) (cx := 0) (bs := []) (v := s.N) (n := 2) h Gives.nilB (by decide) (by decide) (by omega) (by decide))) rfl rfl ?_
  rintro _ w ⟨a11, hv, h⟩
  have hbe : be s.N 2 = SpM.putK s.N 2 2 := rfl
  rw [hbe] at hv h
  have ob_ : ∃ pb, pb = [] ++ SpM.putK s.N 2 2 := ⟨_, rfl⟩
  obtain ⟨pb, hpb⟩ := ob_
  rw [← hpb] at hv h e0
  subst hv
  have hpbl : pb.length = 2 := by rw [hpb, List.nil_append, SpM.putK_length]
  refine ⟨⟨h.cellB rfl, trivial⟩, ?_⟩
  refine WT.eff 10 [false] rfl (by kernel_rfl) (by kernel_rfl) (eff_appT (bytes := 1) h rfl rfl (h.cellsO (v := .slice am s.m.length cm)) Tryz.underlying22 Tryz.underlying144 rfl rfl rfl rfl rfl (by omega) (by omega) bytes_one) rfl rfl ?_
  rintro _ w ⟨a16, c16, hv, h⟩
  have hbv : bytesV pb ++ bytesV s.m = bytesV (encK s 0) := by rw [e0]; simp [bytesV]
  have hel : pb.length + s.m.length = (encK s 0).length := by rw [e0, List.length_append]
  rw [hel] at hv h
  rw [hbv] at h
  subst hv
  refine ⟨trivial, ?_⟩
  refine WT.pure 11 rfl (by kernel_rfl) (fun w' => run_assign) rfl rfl ?_
  refine WT.done (by kernel_rfl) ?_
  refine W.seq ?_
  refine W.seq ?_
  refine W.region ?_
  refine WL.val run_move rfl rfl ?_
  refine WL.val (run_nilCheck rfl) rfl rfl ?_
  refine WL.val (run_fieldAddr 2 Tryz.underlying146 rfl Tryz.sizeOf144 rfl rfl) rfl rfl ?_
  refine WL.val (run_load1 Tryz.isAgg144 rfl (h.cellB rfl)) rfl rfl ?_
  refine WL.eff (eff_call Tryz.call81 (runs_ok (m := s.m) h (Gives.ownO (v := .slice am s.m.length cm)) (by omega))) rfl rfl ?_
  rintro _ w ⟨Rr, ar, rfl, rfl, hR, h⟩
  have hle := encK_le hwf hcap hR
  refine WL.val (run_lenSlice Tryz.underlying147 rfl) rfl rfl ?_
  refine WL.val run_move rfl rfl ?_
  refine WL.nil ?_
  refine W.block ?_
  refine W.loop (fun (k : Nat) env w => ∃ (j : Env) (ao : Option Addr) (co : Nat), env = mkE j [(0, .pointer (some ⟨b, 0, none⟩)), (3, .slice ao (encK s k).length co), (21, .slice ar (rowsOf s.m).length (rowsOf s.m).length), (22, .int .i64 (((rowsOf s.m).length : Nat) : Int)), (23, .int .i64 (k : Int))] ∧ k ≤ (rowsOf s.m).length ∧ On W0 (OwnB (.slice ao (encK s k).length co) (encK s k) :: Own 2 (.slice ar (rowsOf s.m).length (rowsOf s.m).length) (rowsOf s.m).length ((rowsOf s.m).flatMap rowc) :: blk b [.int .i64 (s.N : Int), .slice (some ⟨gd, od, none⟩) (8 * s.N) cd, .slice am s.m.length cm] 146 :: Own 1 (.slice (some ⟨gd, od, none⟩) (8 * s.N) cd) (8 * s.N) (bytesV s.d) :: Own 1 (.slice am s.m.length cm) s.m.length (bytesV s.m) :: L) w) (fun k => (rowsOf s.m).length - k) (0) ?_ ?_
  · exact ⟨_, a16, c16, mkE_of ⟨rfl, rfl, rfl, rfl, rfl, trivial⟩, Nat.zero_le _, h.to⟩
  · rintro k env w ⟨j, ao, co, rfl, hk, h⟩
    have hlk := hle k
    have hfew := hR.few
    refine W.seq ?_
    refine W.region ?_
    refine WL.val (run_lss rfl rfl) rfl rfl ?_
    refine WL.nil ?_
    refine W.seq ?_
    refine W.condIf rfl (fun c6 => ?_) (fun c6 => ?_)
    · skip
      refine W.skip ?_
      refine W.seq ?_
      refine W.block ?_
      refine W.seq ?_
      have hkl : k < (rowsOf s.m).length := by omega
      have ob_ : ∃ r, (rowsOf s.m)[k]? = some r := ⟨(rowsOf s.m)[k], by simp⟩
      obtain ⟨r, hr⟩ := ob_
      have hrc := rows_cap hcap hR (List.mem_of_getElem? hr)
      have e1 : encK s (k + 1) = encK s k ++ partS s r.1 r.2 := encK_succ hr
      have hlk1 := hle (k + 1)
      have hpl : (partS s r.1 r.2).length = (r.1 + r.2) * 8 - r.1 * 8 := by rw [partS_length hwf hrc]; omega
      have el : (encK s (k + 1)).length = (encK s k).length + (partS s r.1 r.2).length := by rw [e1, List.length_append]
      have ob_ := sliced_part (b := gd) (o := od) (show r.1 * 8 ≤ (r.1 + r.2) * 8 by omega) (show (r.1 + r.2) * 8 ≤ cd by omega)
      obtain ⟨lo, hlo, hlo2⟩ := ob_
      have haa := (h.cellsO (v := .slice ar (rowsOf s.m).length (rowsOf s.m).length)).addr (by omega)
      obtain ⟨br, or_, har⟩ := haa
      subst har
      have CP : ∀ L' : List HProp, Gives L' (Cells 1 (.slice (some ⟨gd, od, none⟩) (8 * s.N) cd) (8 * s.N) (bytesV s.d)) → Gives L' (Bytes (.slice (some ⟨gd, od + lo, none⟩) (partS s r.1 r.2).length (cd - r.1 * 8)) (partS s r.1 r.2)) := fun L' gg hh H => by
        have c1 := (gg hh H).cut (l := r.1 * 8) (h := (r.1 + r.2) * 8) (m := cd) (by omega) (by omega) (by omega) (by omega)
        rw [hlo, ← hpl] at c1
        have e1 : ((bytesV s.d).drop (r.1 * 8 * 1)).take ((partS s r.1 r.2).length * 1) = bytesV (partS s r.1 r.2) := by
          rw [hpl, Nat.mul_one, Nat.mul_one]
          unfold partS bytesV
          rw [List.map_take, List.map_drop, Nat.mul_comm r.1 8, show (r.1 + r.2) * 8 - 8 * r.1 = 8 * r.2 by omega]
        rw [e1] at c1
        exact c1
      refine W.region ?_
      refine WL.val (run_indexAddr Tryz.underlying147 Tryz.sizeOf149 rfl rfl (by omega) (by omega)) rfl rfl ?_
      refine WL.val (run_loadN Tryz.isAgg149 Tryz.sizeOf149 rfl rfl ((h.cellsO (v := .slice (some ⟨br, or_, none⟩) (rowsOf s.m).length (rowsOf s.m).length)).elem (i := k) (vs := rowc r) hkl (drop_flatMap rowc 2 rowc_length (rowsOf s.m) _ _ hr))) rfl rfl ?_
      refine WL.eff (eff_alloc h Tryz.zeroValue149 rfl) rfl rfl ?_
      rintro _ w ⟨b5, rfl, h⟩
      refine WL.eff (eff_storeN (vs := rowc r) h Tryz.sizeOf149 rfl rfl rfl rfl rfl (fun k _ _ => free0 k)) rfl rfl ?_
      rintro _ w h
      have h : On W0 (blk b5 (rowc r) 149 :: _) w := h
      refine WL.nil ?_
      refine W.region ?_
      refine WL.val run_move rfl rfl ?_
      refine WL.val run_move rfl rfl ?_
      refine WL.val (run_indexAddrArr Tryz.underlying149 Tryz.sizeOf3 rfl rfl (by omega) (by omega)) rfl rfl ?_
      refine WL.val (run_load1 Tryz.isAgg3 rfl (h.cellB rfl)) rfl rfl ?_
      refine WL.val (run_indexAddrArr Tryz.underlying149 Tryz.sizeOf3 rfl rfl (by omega) (by omega)) rfl rfl ?_
      refine WL.val (run_load1 Tryz.isAgg3 rfl (h.cellB rfl)) rfl rfl ?_
      refine WL.eff (eff_call Tryz.call82 (part_ok (at_ := r.1) (n := r.2) hw3 hrc hdc h)) rfl rfl ?_
      rintro _ w ⟨hv, h⟩
      rw [hlo, ← hpl] at hv
      subst hv
      refine WL.eff (eff_app (bytes := 1) h rfl rfl (CP _ (Gives.ownO (v := .slice (some ⟨gd, od, none⟩) (8 * s.N) cd)) _ h.sat) Tryz.underlying22 rfl rfl rfl rfl rfl (by omega) (by omega) bytes_one) rfl rfl ?_
      rintro _ w ⟨a34, c34, rfl, h⟩
      have hbv : bytesV (encK s k) ++ bytesV (partS s r.1 r.2) = bytesV (encK s k ++ partS s r.1 r.2) := by simp [bytesV]
      rw [hbv] at h
      refine WL.val run_assign rfl rfl ?_
      refine WL.nil ?_
      refine W.region ?_
      refine WL.val (run_incN rfl rfl (by omega)) rfl rfl ?_
      refine WL.val run_move rfl rfl ?_
      refine WL.nil ?_
      -- round, path LT
      exact ⟨k + 1, ⟨_, a34, c34, mkE_of ⟨rfl, (by rw [el]; rfl), rfl, rfl, rfl, trivial⟩, by omega, (by unfold OwnB; rw [el, e1]; exact h.to)⟩, by show (rowsOf s.m).length - (k + 1) < (rowsOf s.m).length - k; omega⟩
    · skip
      refine W.exit ?_
      refine W.seq ?_
      refine W.region ?_
      refine WL.val run_move rfl rfl ?_
      refine WL.eff (eff_call Tryz.call79 (clip_bytes h)) rfl rfl ?_
      rintro _ w ⟨rfl, h⟩
      refine WL.val run_assign rfl rfl ?_
      refine WL.nil ?_
      refine W.ret ?_
      refine bodyQ.r1 (v := .slice _ _ _) Tryz.results76 rfl ?_
      -- path LF
      have ob_ : k = (rowsOf s.m).length := by omega
      obtain rfl := ob_
      exact ⟨ao, rfl, (closeS (cd := cd) (cm := cm) (gd := gd) (od := od) (am := am) hwf h.p1.tail.p3.p3.p3).p1⟩

end Go.Proofs.YtdpakoefdpmebaaGreat
