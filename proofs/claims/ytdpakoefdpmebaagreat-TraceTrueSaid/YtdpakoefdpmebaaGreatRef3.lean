/-
  The document's unit: what is told: the contracts. Lines of walks printed by a program of the prover's.
-/
import Derived.Test.YtdpakoefdpmebaaGreatRef2
import Derived.Test.YtdpakoefdpmebaaGreatSlAppS
namespace Go.Proofs.YtdpakoefdpmebaaGreat
open Go Go.Sl Go.Sl.BitM Go.Sl.SpM Go.Sl.RsM Go.Sl.ByM Go.Sl.UnM
set_option linter.unusedVariables false
set_option linter.unusedSimpArgs false
set_option maxHeartbeats 1000000
set_option maxRecDepth 8000
variable {W0 w : World} {L F : List HProp}


theorem be04 {k : Nat} (h : k < 4) : (be 0 4)[k]? = some 0 := by
  match k, h with
  | 0, _ | 1, _ | 2, _ | 3, _ => rfl
def e18 (x : UInt8) : List UInt8 := [112, 0, x, 0, 0, 0, 0, 0, 0, 0, 0, 0, 0, 0, 0, 0, 0, 0]
theorem e18_set {k : Nat} {x : UInt8} (h : k < 4) : (bytesV (e18 x)).set ((3 + k) * 1) (.int .u8 (((0 : UInt8).toNat : Nat) : Int)) = bytesV (e18 x) := by
  match k, h with
  | 0, _ | 1, _ | 2, _ | 3, _ => rfl
theorem senseB_eq (k c : Nat) : senseB k c = [112, 0, UInt8.ofNat k, 0, 0, 0, 0, 10, 0, 0, 0, 0, UInt8.ofNat (c / 2 ^ 8), UInt8.ofNat c, 0, 0, 0, 0] := by
  unfold senseB be putK; simp [List.range_succ]
theorem be_y {y : Nat} (h : y < 16) : be 0 4 ++ (be y 2 ++ be 0 2) = [0, 0, 0, 0, 0, UInt8.ofNat y, 0, 0] := by
  have e : y / 256 = 0 := by omega
  unfold be putK; simp [List.range_succ, e]

theorem rwrong5_ok {x y : Int} (h : On W0 L w) : Calls Tryz.prog 55 #[.int .i64 x, .int .i64 y] w (Ret fun v w' => v = rep 2 x y ∧ On W0 L w') := by
  refine enter Tryz.func55 rfl Tryz.ntmps55 rfl (W.seq (W.region (WL.eff (eff_alloc h Tryz.zeroValue36 rfl) rfl rfl ?_)))
  rintro _ w ⟨b4, rfl, h⟩
  refine WL.nil (W.seq (W.region (WL.val run_move rfl rfl (WL.val run_move rfl rfl (WL.val (run_buildS (pl := [(0, 1), (1, 1), (2, 1), (3, 1), (4, 1)]) (out := [.int .i64 _, .int .i64 _, .int .i64 _, .slice _ _ _, .int .i64 _]) Tryz.underlying36 Tryz.zeroValue36 (fun w => by kernel_rfl) rfl (⟨⟨_, _, rfl, rfl, by decide⟩, ⟨⟨_, _, rfl, rfl, by decide⟩, ⟨⟨_, _, rfl, rfl, by decide⟩, trivial⟩⟩⟩) rfl) rfl rfl (WL.eff (eff_storeW (vs := [.int .i64 _, .int .i64 _, .int .i64 _, .slice _ _ _, .int .i64 _]) h Tryz.sizeOf36 rfl rfl rfl rfl rfl) rfl rfl ?_))))))
  rintro _ w h
  refine WL.nil (W.ret (bodyQ.rcB (vs := [.int .i64 _, .int .i64 _, .int .i64 _, .slice _ _ _, .int .i64 _]) h Tryz.results55 Tryz.isAgg36 Tryz.sizeOf36 rfl rfl rfl ?_))
  exact ⟨rfl, h.tail⟩

theorem renc5_ok {s : Int} {k c : Nat} (hk : k < 16) (hc : c < 65536) (h : On W0 L w) : Calls Tryz.prog 57 #[(plain s (k : Int) (c : Int)).val (.slice none 0 0)] w (Ret fun v w' => ∃ a, v = .slice a (senseB k c).length 18 ∧ On W0 (OwnB (.slice a (senseB k c).length 18) (senseB k c) :: L) w') := by
  refine enter Tryz.func57 rfl Tryz.ntmps57 rfl ?_
  have hmx := maxLen_eq
  refine W.seq (W.region (WL.eff (eff_box (v := .agg _) (l := (plain s (k : Int) (c : Int)).cells (.slice none 0 0)) h rfl rfl) rfl rfl ?_))
  rintro _ w ⟨b1, rfl, h⟩
  have h : On W0 (blk b1 [.int .i64 s, .int .i64 (k : Int), .int .i64 (c : Int), .slice none 0 0, .int .i64 0] 36 :: _) w := h
  refine WL.val run_assign rfl rfl (WL.nil (W.seq (W.region (WL.eff (eff_make (n := 18) (bytes := 1) h rfl rfl Tryz.underlying22 rfl rfl rfl rfl rfl (by omega) (by omega)) rfl rfl ?_))))
  rintro _ w ⟨b6, rfl, h⟩
  have h : On W0 (Own 1 (.slice (some ⟨b6, 0, none⟩) 18 18) 18 (bytesV (List.replicate 18 (0 : UInt8))) :: _) w := h
  refine WL.val run_assign rfl rfl (WL.nil (W.seq (W.region (WL.val run_move rfl rfl (WL.val (run_indexAddr Tryz.underlying22 Tryz.sizeOf5 rfl rfl (by omega) (by omega)) rfl rfl (WL.eff (eff_storeOwn (k := 0 * 1) (v := .int .u8 _) (h.fetch (Own 1 (.slice (some ⟨b6, 0, none⟩) 18 18) 18 (bytesV (List.replicate 18 (0 : UInt8))))) Tryz.sizeOf5 rfl rfl rfl (by omega)) rfl rfl ?_))))))
  rintro _ w h
  have h : On W0 (Own 1 (.slice (some ⟨b6, 0, none⟩) 18 18) 18 (bytesV (e18 0)) :: _) w := h
  refine WL.nil (W.seq (W.seq (W.region (WL.val (run_fieldAddr 4 Tryz.underlying36 rfl Tryz.sizeOf3 rfl rfl) rfl rfl (WL.val (run_load1 Tryz.isAgg3 rfl (h.cellB rfl)) rfl rfl (WL.val (run_convIn Tryz.underlying3 Tryz.underlying126 rfl (by decide) (by decide)) rfl rfl (WL.val (run_neqF rfl rfl (by decide)) rfl rfl ?_)))))))
  refine WL.nil (W.condF rfl (W.skip (W.seq (W.region (WL.val run_move rfl rfl (WL.val (run_fieldAddr 1 Tryz.underlying36 rfl Tryz.sizeOf3 rfl rfl) rfl rfl (WL.val (run_load1 Tryz.isAgg3 rfl (h.cellB rfl)) rfl rfl ?_)))))))
  refine WL.val (run_andN (k := .i64) (m := k) (n := 15) rfl rfl (by show _ ≤ (9223372036854775807 : Int); omega) (by decide)) rfl rfl (WL.val (run_convByte Tryz.underlying3 Tryz.underlying5 rfl) rfl rfl (WL.val (run_indexAddr Tryz.underlying22 Tryz.sizeOf5 rfl rfl (by omega) (by omega)) rfl rfl (WL.eff (eff_storeOwn (k := 2 * 1) (v := .int .u8 _) (h.fetch (Own 1 (.slice (some ⟨b6, 0, none⟩) 18 18) 18 (bytesV (e18 0)))) Tryz.sizeOf5 rfl rfl rfl (by omega)) rfl rfl ?_)))
  rintro _ w h
  rw [show k &&& 15 = k by rw [show (15 : Nat) = 2 ^ 4 - 1 from rfl, Nat.and_two_pow_sub_one_eq_mod]; omega] at h
  have h : On W0 (Own 1 (.slice (some ⟨b6, 0, none⟩) 18 18) 18 (bytesV (e18 (UInt8.ofNat k))) :: _) w := h
  refine WL.nil (W.seq (W.region (WL.val (run_fieldAddr 4 Tryz.underlying36 rfl Tryz.sizeOf3 rfl rfl) rfl rfl (WL.val (run_load1 Tryz.isAgg3 rfl (h.cellB rfl)) rfl rfl (WL.val (run_convIn Tryz.underlying3 Tryz.underlying23 rfl (by decide) (by decide)) rfl rfl (WL.eff (eff_call Tryz.call113 (rput_ok (ax := none) (cx := 0) (bs := []) (v := 0) (n := 4) (h.ownEmpty 1 none) (by decide) (by decide) (by omega) (by decide))) rfl rfl ?_))))))
  rintro _ w ⟨a24, c24, rfl, h⟩
  have h : On W0 (OwnB (.slice a24 (be 0 4).length c24) (be 0 4) :: _) w := h
  refine WL.val run_assign rfl rfl (WL.nil (W.seq (W.seq (W.region (WL.val run_assign rfl rfl (WL.nil (W.block ?_)))))))
  refine W.loop (fun (q : Nat) env w => q ≤ 4 ∧ ∃ j, env = mkE j [(1, .pointer (some ⟨b1, 0, none⟩)), (3, .slice (some ⟨b6, 0, none⟩) 18 18), (4, .slice a24 (be 0 4).length c24), (5, .int .i64 (q : Int))] ∧ On W0 (Own 1 (.slice (some ⟨b6, 0, none⟩) 18 18) 18 (bytesV (e18 (UInt8.ofNat k))) :: OwnB (.slice a24 (be 0 4).length c24) (be 0 4) :: blk b1 [.int .i64 s, .int .i64 (k : Int), .int .i64 (c : Int), .slice none 0 0, .int .i64 0] 36 :: L) w) (fun q => 4 - q) (0) ?_ ?_
  · exact ⟨Nat.zero_le _, _, mkE_of ⟨rfl, rfl, rfl, rfl, trivial⟩, h.to⟩
  rintro q env w ⟨hq, j, rfl, h⟩
  refine W.seq (W.seq (W.region (WL.val run_move rfl rfl (WL.val (run_lss rfl rfl) rfl rfl (WL.nil ?_)))))
  refine W.condIf rfl (fun c13 => ?_) (fun c13 => ?_)
  ·
   refine W.skip (W.seq ?_)
   have hq4 : q < 4 := by omega
   have bl := be_length 0 4
   have h := h.fetch (OwnB (.slice a24 (be 0 4).length c24) (be 0 4))
   have ha := Own.addr h (by omega)
   obtain ⟨ba, oa, hal⟩ := ha
   subst hal
   refine W.block (W.region (WL.val run_move rfl rfl (WL.val run_move rfl rfl (WL.val (run_addN (m := 3) (n := q) rfl rfl (by omega)) rfl rfl (WL.val run_move rfl rfl (WL.val run_move rfl rfl (WL.val (run_indexAddr Tryz.underlying22 Tryz.sizeOf5 rfl rfl (by omega) (by omega)) rfl rfl ?_)))))))
   refine WL.val (run_load1 Tryz.isAgg5 rfl ((h.cellsO (v := .slice (some ⟨ba, oa, none⟩) (be 0 4).length c24)).elem (i := q) (vs := [.int .u8 (((0 : UInt8).toNat : Nat) : Int)]) (by omega) (bytes_row (be04 hq4)) 0 _ rfl)) rfl rfl (WL.val (run_indexAddr Tryz.underlying22 Tryz.sizeOf5 rfl rfl (by omega) (by omega)) rfl rfl (WL.eff (eff_storeOwn (k := (3 + q) * 1) (v := .int .u8 (((0 : UInt8).toNat : Nat) : Int)) (h.fetch (Own 1 (.slice (some ⟨b6, 0, none⟩) 18 18) 18 (bytesV (e18 (UInt8.ofNat k))))) Tryz.sizeOf5 rfl rfl rfl (by omega)) rfl rfl ?_))
   rintro _ w h
   rw [e18_set hq4] at h
   refine WL.nil (W.region (WL.val run_move rfl rfl (WL.val (run_incN rfl rfl (by omega)) rfl rfl (WL.val run_assign rfl rfl (WL.nil ?_)))))
   exact ⟨q + 1, ⟨by omega, _, mkE_of ⟨rfl, rfl, rfl, rfl, trivial⟩, h.to⟩, by show 4 - (q + 1) < 4 - q; omega⟩
  refine W.exit (W.seq (W.region (WL.val run_move rfl rfl (WL.val (run_indexAddr Tryz.underlying22 Tryz.sizeOf5 rfl rfl (by omega) (by omega)) rfl rfl (WL.eff (eff_storeOwn (k := 7 * 1) (v := .int .u8 _) (h.fetch (Own 1 (.slice (some ⟨b6, 0, none⟩) 18 18) 18 (bytesV (e18 (UInt8.ofNat k))))) Tryz.sizeOf5 rfl rfl rfl (by omega)) rfl rfl ?_)))))
  rintro _ w h
  have h : On W0 (Own 1 (.slice (some ⟨b6, 0, none⟩) 18 18) 18 (bytesV [112, 0, UInt8.ofNat k, 0, 0, 0, 0, 10, 0, 0, 0, 0, 0, 0, 0, 0, 0, 0]) :: _) w := h
  refine WL.nil (W.seq (W.region (WL.val run_move rfl rfl (WL.val (run_fieldAddr 2 Tryz.underlying36 rfl Tryz.sizeOf3 rfl rfl) rfl rfl (WL.val (run_load1 Tryz.isAgg3 rfl (h.cellB rfl)) rfl rfl (WL.val (run_shrN (m := c) (j := 8) rfl rfl (by decide)) rfl rfl (WL.val (run_convByte Tryz.underlying3 Tryz.underlying5 rfl) rfl rfl ?_)))))))
  refine WL.val (run_indexAddr Tryz.underlying22 Tryz.sizeOf5 rfl rfl (by omega) (by omega)) rfl rfl (WL.eff (eff_storeOwn (k := 12 * 1) (v := .int .u8 _) (h.fetch (Own 1 (.slice (some ⟨b6, 0, none⟩) 18 18) 18 (bytesV [112, 0, UInt8.ofNat k, 0, 0, 0, 0, 10, 0, 0, 0, 0, 0, 0, 0, 0, 0, 0]))) Tryz.sizeOf5 rfl rfl rfl (by omega)) rfl rfl ?_)
  rintro _ w h
  have h : On W0 (Own 1 (.slice (some ⟨b6, 0, none⟩) 18 18) 18 (bytesV [112, 0, UInt8.ofNat k, 0, 0, 0, 0, 10, 0, 0, 0, 0, UInt8.ofNat (c / 2 ^ 8), 0, 0, 0, 0, 0]) :: _) w := h
  refine WL.nil (W.seq (W.region (WL.val run_move rfl rfl (WL.val (run_fieldAddr 2 Tryz.underlying36 rfl Tryz.sizeOf3 rfl rfl) rfl rfl (WL.val (run_load1 Tryz.isAgg3 rfl (h.cellB rfl)) rfl rfl (WL.val (run_convByte Tryz.underlying3 Tryz.underlying5 rfl) rfl rfl (WL.val (run_indexAddr Tryz.underlying22 Tryz.sizeOf5 rfl rfl (by omega) (by omega)) rfl rfl ?_)))))))
  refine WL.eff (eff_storeOwn (k := 13 * 1) (v := .int .u8 _) (h.fetch (Own 1 (.slice (some ⟨b6, 0, none⟩) 18 18) 18 (bytesV [112, 0, UInt8.ofNat k, 0, 0, 0, 0, 10, 0, 0, 0, 0, UInt8.ofNat (c / 2 ^ 8), 0, 0, 0, 0, 0]))) Tryz.sizeOf5 rfl rfl rfl (by omega)) rfl rfl ?_
  rintro _ w h
  have h : On W0 (Own 1 (.slice (some ⟨b6, 0, none⟩) 18 18) 18 (bytesV [112, 0, UInt8.ofNat k, 0, 0, 0, 0, 10, 0, 0, 0, 0, UInt8.ofNat (c / 2 ^ 8), UInt8.ofNat c, 0, 0, 0, 0]) :: _) w := h
  refine WL.nil (W.seq (W.region (WL.val run_move rfl rfl (WL.val run_assign rfl rfl (WL.nil (W.ret (bodyQ.r1 (v := .slice _ _ _) Tryz.results57 rfl ?_)))))))
  rw [senseB_eq]
  exact ⟨_, rfl, h.to⟩

theorem rinq5_ok (h : On W0 L w) : Calls Tryz.prog 59 #[] w (Ret fun v w' => ∃ a c, v = .slice a inqB.length c ∧ On W0 (OwnB (.slice a inqB.length c) inqB :: L) w') := by
  refine enter Tryz.func59 rfl Tryz.ntmps59 rfl ?_
  have hmx := maxLen_eq
  refine W.seq (W.region (WL.val run_assign rfl rfl (WL.nil (W.seq (W.region (WL.eff (eff_make (n := 8) (bytes := 1) h rfl rfl Tryz.underlying22 rfl rfl rfl rfl rfl (by omega) (by omega)) rfl rfl ?_))))))
  rintro _ w ⟨b2, rfl, h⟩
  have h : On W0 (Own 1 (.slice (some ⟨b2, 0, none⟩) 8 8) 8 (bytesV [0, 0, 0, 0, 0, 0, 0, 0]) :: _) w := h
  refine WL.val run_assign rfl rfl (WL.nil (W.seq (W.region (WL.val run_move rfl rfl (WL.val (run_indexAddr Tryz.underlying22 Tryz.sizeOf5 rfl rfl (by omega) (by omega)) rfl rfl (WL.eff (eff_storeOwn (k := 2 * 1) (v := .int .u8 _) h Tryz.sizeOf5 rfl rfl rfl (by omega)) rfl rfl ?_))))))
  rintro _ w h
  have h : On W0 (Own 1 (.slice (some ⟨b2, 0, none⟩) 8 8) 8 (bytesV [0, 0, 5, 0, 0, 0, 0, 0]) :: _) w := h
  refine WL.nil (W.seq (W.region (WL.val run_move rfl rfl (WL.val (run_indexAddr Tryz.underlying22 Tryz.sizeOf5 rfl rfl (by omega) (by omega)) rfl rfl (WL.eff (eff_storeOwn (k := 3 * 1) (v := .int .u8 _) h Tryz.sizeOf5 rfl rfl rfl (by omega)) rfl rfl ?_)))))
  rintro _ w h
  have h : On W0 (Own 1 (.slice (some ⟨b2, 0, none⟩) 8 8) 8 (bytesV [0, 0, 5, 2, 0, 0, 0, 0]) :: _) w := h
  refine WL.nil (W.seq (W.region (WL.val run_move rfl rfl (WL.val (run_indexAddr Tryz.underlying22 Tryz.sizeOf5 rfl rfl (by omega) (by omega)) rfl rfl (WL.eff (eff_storeOwn (k := 4 * 1) (v := .int .u8 _) h Tryz.sizeOf5 rfl rfl rfl (by omega)) rfl rfl ?_)))))
  rintro _ w h
  have h : On W0 (Own 1 (.slice (some ⟨b2, 0, none⟩) 8 8) 8 (bytesV [0, 0, 5, 2, 31, 0, 0, 0]) :: _) w := h
  refine WL.nil (W.seq (W.region (WL.val run_move rfl rfl (WL.eff (eff_appStr (n := 8) (c := 8) (bytes := 1) h rfl rfl Tryz.underlying22 Tryz.underlying9 rfl rfl rfl rfl rfl (by decide) (by decide) (by decide)) rfl rfl ?_))))
  rintro _ w ⟨a10, c10, rfl, h⟩
  have h : On W0 (OwnB (.slice a10 inqB.length c10) inqB :: _) w := h
  refine WL.val run_assign rfl rfl (WL.nil (W.ret (bodyQ.r1 (v := .slice _ _ _) Tryz.results59 rfl ?_)))
  exact ⟨_, _, rfl, h⟩

theorem rcap5_ok {n : Nat} (h1 : 1 ≤ n) (h2 : n ≤ 1024) (h : On W0 L w) : Calls Tryz.prog 60 #[.int .i64 (n : Int)] w (Ret fun v w' => ∃ a c, v = .slice a (capB n).length c ∧ On W0 (OwnB (.slice a (capB n).length c) (capB n) :: L) w') := by
  refine enter Tryz.func60 rfl Tryz.ntmps60 rfl (W.seq (W.region (WL.val run_assign rfl rfl (WL.nil (W.seq (W.seq (W.region ?_)))))))
  refine WL.val run_move rfl rfl (WL.val (run_lssF rfl rfl (by omega)) rfl rfl (WL.nil (W.condF rfl (W.skip (W.seq (W.region (WL.val run_move rfl rfl ?_)))))))
  refine WL.val (run_subN (m := n) (n := 1) rfl rfl (by omega) (by omega)) rfl rfl (WL.val (run_convIn Tryz.underlying3 Tryz.underlying23 rfl (by show (0 : Int) ≤ _; omega) (by show _ ≤ (18446744073709551615 : Int); omega)) rfl rfl (WL.eff (eff_call Tryz.call113 (rput_ok (ax := none) (cx := 0) (bs := []) (v := n - 1) (n := 4) (h.ownEmpty 1 none) (by decide) (by decide) (by omega) (by decide))) rfl rfl ?_))
  rintro _ w ⟨a7, c7, rfl, h⟩
  refine WL.eff (eff_call Tryz.call113 (rput_ok (v := 8) (n := 4) (bs := [] ++ be (n - 1) 4) h (by decide) (by decide) (by omega) (by rw [List.nil_append, be_length]; decide))) rfl rfl ?_
  rintro _ w ⟨a8, c8, rfl, h⟩
  refine WL.val run_assign rfl rfl (WL.nil (W.ret (bodyQ.r1 (v := .slice _ _ _) Tryz.results60 rfl ?_)))
  have h2 : On W0 (OwnB (.slice a8 (capB n).length c8) (capB n) :: _) w := h
  exact ⟨a8, c8, rfl, h2.to⟩

theorem rkeys6_ok {g ck : Nat} {ak : Option Addr} {ks : List Int} (hg : g < 4294967296) (hk : ∀ x ∈ ks, 0 ≤ x ∧ x < 18446744073709551616) (hl : ks.length ≤ 8) (h : On W0 L w) (C : Gives L (Cells 1 (.slice ak ks.length ck) ks.length (kV ks))) : Calls Tryz.prog 68 #[.int .u32 (g : Int), .slice ak ks.length ck] w (Ret fun v w' => ∃ a c, v = .slice a (keysP g (8 * ks.length) ks ks.length).length c ∧ On W0 (OwnB (.slice a (keysP g (8 * ks.length) ks ks.length).length c) (keysP g (8 * ks.length) ks ks.length) :: L) w') := by
  refine enter Tryz.func68 rfl Tryz.ntmps68 rfl ?_
  have hmx := maxLen_eq
  have hbd := (h.reads C).bounds
  obtain ⟨hc1, hc2⟩ := hbd
  have e0 : ([] ++ be g 4) ++ be (8 * ks.length) 4 = (keysP g (8 * ks.length) ks 0) := by rw [keysP_zero, List.nil_append]
  refine W.seq (W.region (WL.val run_assign rfl rfl (WL.nil (W.seq (W.seq (W.region (WL.val run_move rfl rfl ?_)))))))
  refine WL.val (run_lenSlice Tryz.underlying129 rfl) rfl rfl (WL.val (run_gtrF rfl rfl (by omega)) rfl rfl (WL.nil (W.condF rfl (W.skip (W.seq (W.region (WL.val run_move rfl rfl ?_)))))))
  refine WL.val (run_convIn Tryz.underlying126 Tryz.underlying23 rfl (by show (0 : Int) ≤ _; omega) (by show _ ≤ (18446744073709551615 : Int); omega)) rfl rfl (WL.eff (eff_call Tryz.call113 (rput_ok (ax := none) (cx := 0) (bs := []) (v := g) (n := 4) (h.ownEmpty 1 none) (by decide) (by decide) (by omega) (by decide))) rfl rfl ?_)
  rintro _ w ⟨a15, c15, rfl, h⟩
  refine WL.val run_move rfl rfl (WL.val (run_lenSlice Tryz.underlying129 rfl) rfl rfl (WL.val (run_mulN (m := 8) (n := ks.length) rfl rfl (by omega)) rfl rfl (WL.val (run_convIn Tryz.underlying3 Tryz.underlying23 rfl (by show (0 : Int) ≤ _; omega) (by show _ ≤ (18446744073709551615 : Int); omega)) rfl rfl (WL.eff (eff_call Tryz.call113 (rput_ok (v := 8 * ks.length) (n := 4) h (by decide) (by decide) (by omega) (by rw [List.nil_append, be_length]; decide))) rfl rfl ?_))))
  rintro v20 w ⟨a20, c20, hv20, h⟩
  rw [e0] at hv20 h
  subst hv20
  refine WL.val run_assign rfl rfl (WL.nil (W.seq (W.seq (W.region (WL.val run_assign rfl rfl (WL.nil (W.block ?_)))))))
  refine W.loop (fun (k : Nat) env w => k ≤ ks.length ∧ ∃ (j : Env) (ao : Option Addr) (co : Nat), env = mkE j [(1, .slice ak ks.length ck), (5, .slice ao (keysP g (8 * ks.length) ks k).length co), (6, .int .i64 (k : Int))] ∧ On W0 (OwnB (.slice ao (keysP g (8 * ks.length) ks k).length co) (keysP g (8 * ks.length) ks k) :: L) w) (fun k => ks.length - k) (0) ?_ ?_
  · exact ⟨Nat.zero_le _, _, a20, c20, mkE_of ⟨rfl, rfl, rfl, trivial⟩, h.to⟩
  rintro k env w ⟨hk8, j, ao, co, rfl, h⟩
  have hlk := keysP_len (g := g) (n := 8 * ks.length) hk8
  refine W.seq (W.seq (W.region (WL.val run_move rfl rfl (WL.val run_move rfl rfl (WL.val (run_lenSlice Tryz.underlying129 rfl) rfl rfl (WL.val (run_lss rfl rfl) rfl rfl (WL.nil ?_)))))))
  refine W.condIf rfl (fun c10 => ?_) (fun c10 => ?_)
  ·
   refine W.skip (W.seq ?_)
   have hkl : k < ks.length := by omega
   have ex_ : ∃ x, ks[k]? = some x := ⟨ks[k], by simp⟩
   obtain ⟨x, hx⟩ := ex_
   have hxk := hk x (List.mem_of_getElem? hx)
   have ekx : x = ((x.toNat : Nat) : Int) := by omega
   have adx := (h.readsTo C).addr (by omega)
   obtain ⟨bx, ox, hax⟩ := adx
   subst hax
   refine W.block (W.region (WL.val run_move rfl rfl (WL.val run_move rfl rfl (WL.val run_move rfl rfl (WL.val (run_indexAddr Tryz.underlying129 Tryz.sizeOf23 rfl rfl (by omega) (by omega)) rfl rfl (WL.val (run_load1 Tryz.isAgg23 rfl ((h.readsTo C).elem (i := k) (vs := [.int .u64 ((x.toNat : Nat) : Int)]) hkl ((kV_get hx).trans (congrArg (fun q => [Value.int .u64 q]) ekx)) 0 _ rfl)) rfl rfl (WL.eff (eff_call Tryz.call113 (rput_ok (v := x.toNat) (n := 8) (bs := (keysP g (8 * ks.length) ks k)) h (by decide) (by decide) (by omega) (by omega))) rfl rfl ?_)))))))
   rintro _ w ⟨a31, c31, rfl, h⟩
   refine WL.val run_assign rfl rfl (WL.nil (W.region (WL.val run_move rfl rfl (WL.val (run_incN rfl rfl (by omega)) rfl rfl (WL.val run_assign rfl rfl (WL.nil ?_))))))
   rw [keysP_succ hx] at h
   exact ⟨k + 1, ⟨by omega, _, a31, c31, mkE_of ⟨rfl, congrArg (fun q : List UInt8 => Value.slice a31 q.length c31) (keysP_succ hx), rfl, trivial⟩, h.to⟩, by show ks.length - (k + 1) < ks.length - k; omega⟩
  refine W.exit (W.seq (W.region (WL.val run_move rfl rfl (WL.val run_assign rfl rfl (WL.nil (W.ret (bodyQ.r1 (v := .slice _ _ _) Tryz.results68 rfl ?_)))))))
  have ob_ : k = ks.length := by omega
  obtain rfl := ob_
  exact ⟨ao, co, rfl, h⟩

theorem rholder6_ok {g key y : Nat} (hg : g < 4294967296) (hk : key < 18446744073709551616) (hy : y < 16) (h : On W0 L w) : Calls Tryz.prog 70 #[.int .u32 (g : Int), .int .u64 (key : Int), .int .i64 (y : Int)] w (Ret fun v w' => ∃ a c, v = .slice a (holdP g key y).length c ∧ On W0 (OwnB (.slice a (holdP g key y).length c) (holdP g key y) :: L) w') := by
  refine enter Tryz.func70 rfl Tryz.ntmps70 rfl ?_
  have hmx := maxLen_eq
  refine W.seq (W.region (WL.val run_assign rfl rfl (WL.nil (W.seq (W.region (WL.val run_move rfl rfl (WL.val (run_convIn Tryz.underlying126 Tryz.underlying23 rfl (by show (0 : Int) ≤ _; omega) (by show _ ≤ (18446744073709551615 : Int); omega)) rfl rfl ?_)))))))
  refine WL.eff (eff_call Tryz.call113 (rput_ok (ax := none) (cx := 0) (bs := []) (v := g) (n := 4) (h.ownEmpty 1 none) (by decide) (by decide) (by omega) (by decide))) rfl rfl ?_
  rintro _ w ⟨a10, c10, rfl, h⟩
  refine WL.val run_assign rfl rfl (WL.nil (W.seq (W.seq (W.region (WL.val run_move rfl rfl (WL.val (run_andV (m := y) (n := 15) (and15 hy) rfl rfl (by show _ ≤ (9223372036854775807 : Int); omega) (by decide)) rfl rfl (WL.val (run_eql rfl rfl) rfl rfl ?_)))))))
  refine WL.nil ?_
  refine W.condIf rfl (fun c3 => ?_) (fun c3 => ?_)
  ·
   refine W.seq (W.region (WL.val run_move rfl rfl (WL.eff (eff_call Tryz.call113 (rput_ok (v := 0) (n := 4) (bs := [] ++ be g 4) h (by decide) (by decide) (by omega) (by simp only [List.length_append, List.length_nil, be_length]; omega))) rfl rfl ?_)))
   rintro _ w ⟨a15, c15, rfl, h⟩
   refine WL.val run_assign rfl rfl (WL.nil (W.ret (bodyQ.r1 (v := .slice _ _ _) Tryz.results70 rfl ?_)))
   have e : holdP g key y = [] ++ be g 4 ++ be 0 4 := by unfold holdP; rw [if_pos (by omega), List.nil_append]
   rw [e]
   exact ⟨a15, c15, rfl, h.to⟩
  refine W.skip (W.seq (W.region (WL.val run_move rfl rfl (WL.eff (eff_call Tryz.call113 (rput_ok (v := 16) (n := 4) (bs := [] ++ be g 4) h (by decide) (by decide) (by omega) (by simp only [List.length_append, List.length_nil, be_length]; omega))) rfl rfl ?_))))
  rintro _ w ⟨a17, c17, rfl, h⟩
  refine WL.val run_move rfl rfl (WL.eff (eff_call Tryz.call113 (rput_ok (v := key) (n := 8) (bs := [] ++ be g 4 ++ be 16 4) h (by decide) (by decide) (by omega) (by simp only [List.length_append, List.length_nil, be_length]; omega))) rfl rfl ?_)
  rintro _ w ⟨a19, c19, rfl, h⟩
  refine WL.val run_assign rfl rfl (WL.nil (W.seq (W.region (WL.val run_move rfl rfl (WL.val run_move rfl rfl (WL.val (run_andV (m := y) (n := 15) (and15 hy) rfl rfl (by show _ ≤ (9223372036854775807 : Int); omega) (by decide)) rfl rfl (WL.val (run_convByte Tryz.underlying3 Tryz.underlying5 rfl) rfl rfl ?_)))))))
  refine WL.eff (eff_mkRow (out := [.int .u8 _, .int .u8 _, .int .u8 _, .int .u8 _, .int .u8 _, .int .u8 _, .int .u8 _, .int .u8 _]) h Tryz.underlying22 Tryz.sizeOf5 Tryz.zeroValue5 rfl (by decide) rfl rfl rfl) rfl rfl ?_
  rintro _ w ⟨b24, rfl, h⟩
  refine WL.eff (eff_app (c2 := 8) (bytes := 1) (h.fetch (OwnB (.slice a19 ([] ++ be g 4 ++ be 16 4 ++ be key 8).length c19) ([] ++ be g 4 ++ be 16 4 ++ be key 8))) rfl rfl (h.cellsO (v := .slice (some ⟨b24, 0, none⟩) 8 8)) Tryz.underlying22 rfl rfl rfl rfl rfl (by simp only [List.length_append, List.length_nil, be_length]; omega) (by simp only [List.length_append, List.length_nil, be_length]; omega) (by simp [Value.oneCell'])) rfl rfl ?_
  rintro v25 w ⟨a25, c25, hv25, h⟩
  have e : holdP g key y = ([] ++ be g 4 ++ be 16 4 ++ be key 8) ++ [0, 0, 0, 0, 0, UInt8.ofNat y, 0, 0] := by unfold holdP; rw [if_neg (by omega), ← be_y hy, List.nil_append]; simp only [List.append_assoc]
  have e1 : ([] ++ be g 4 ++ be 16 4 ++ be key 8).length + 8 = (holdP g key y).length := by rw [e, List.length_append]; rfl
  have e2 : bytesV ([] ++ be g 4 ++ be 16 4 ++ be key 8) ++ bytesV [0, 0, 0, 0, 0, UInt8.ofNat y, 0, 0] = bytesV (holdP g key y) := by rw [e]; unfold bytesV; rw [← List.map_append]
  rw [e1] at hv25
  subst hv25
  have h : On W0 (Own 1 (.slice a25 (([] ++ be g 4 ++ be 16 4 ++ be key 8).length + 8) c25) (([] ++ be g 4 ++ be 16 4 ++ be key 8).length + 8) (bytesV ([] ++ be g 4 ++ be 16 4 ++ be key 8) ++ bytesV [0, 0, 0, 0, 0, UInt8.ofNat y, 0, 0]) :: _) w := h
  rw [e1, e2] at h
  refine WL.val run_assign rfl rfl (WL.nil (W.ret (bodyQ.r1 (v := .slice _ _ _) Tryz.results70 rfl ?_)))
  exact ⟨a25, c25, rfl, h.to⟩

end Go.Proofs.YtdpakoefdpmebaaGreat
