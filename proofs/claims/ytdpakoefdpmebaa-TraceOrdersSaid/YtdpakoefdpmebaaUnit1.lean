/-
  A unit: numbers, what is told, attentions: the contracts. Lines of walks printed by a program of the prover's.
-/
import Derived.Test.YtdpakoefdpmebaaSpace2
import Derived.Test.YtdpakoefdpmebaaResv3
import Derived.Test.YtdpakoefdpmebaaUnitModel
namespace Go.Proofs.Ytdpakoefdpmebaa
open Go Go.Sl Go.Sl.BitM Go.Sl.SpM Go.Sl.RsM Go.Sl.ByM Go.Sl.UnM
set_option linter.unusedVariables false
set_option linter.unusedSimpArgs false
set_option maxHeartbeats 1000000
set_option maxRecDepth 8000
variable {W0 w : World} {L F : List HProp}

theorem bput_ok {ax : Option Addr} {cx v n : Nat} {bs : List UInt8} (h : On W0 L w) (C : Gives L (Bytes (.slice ax bs.length cx) bs)) (hn1 : 1 ≤ n) (hn8 : n ≤ 8) (hv : v < 18446744073709551616) (hb : bs.length ≤ 140737488350000) : Calls Try.prog 30 #[.slice ax bs.length cx, .int .u64 (v : Int), .int .i64 (n : Int)] (w) (Ret fun r w' => ∃ a, r = .slice a (bs ++ be v n).length (bs ++ be v n).length ∧ On W0 (OwnB (.slice a (bs ++ be v n).length (bs ++ be v n).length) (bs ++ be v n) :: L) w') := by
  refine enter Try.func30 rfl Try.ntmps30 rfl ?_
  have hmx := maxLen_eq
  unfold be
  refine W.seq ?_
  refine W.region ?_
  refine WL.val run_assign rfl rfl ?_
  refine WL.nil ?_
  refine W.seq ?_
  refine W.region ?_
  refine WL.val run_move rfl rfl ?_
  refine WL.eff (eff_call Try.call28 (clone_bytes h C (by omega))) rfl rfl ?_
  rintro _ w ⟨a10, c10, rfl, h⟩
  refine WL.val run_assign rfl rfl ?_
  refine WL.nil ?_
  refine W.seq ?_
  refine W.seq ?_
  refine W.region ?_
  refine WL.val run_move rfl rfl ?_
  refine WL.val (run_lssF rfl rfl (by omega)) rfl rfl ?_
  refine WL.val run_move rfl rfl ?_
  refine WL.val run_move rfl rfl ?_
  refine WL.val (run_gtrF rfl rfl (by omega)) rfl rfl ?_
  refine WL.val (run_pickF rfl) rfl rfl ?_
  refine WL.nil ?_
  refine W.condF rfl ?_
  refine W.skip ?_
  refine W.seq ?_
  refine W.seq ?_
  refine W.region ?_
  refine WL.val run_move rfl rfl ?_
  refine WL.val (run_subN (m := n) (n := 1) rfl rfl (by omega) (by omega)) rfl rfl ?_
  refine WL.val run_assign rfl rfl ?_
  refine WL.nil ?_
  refine W.block ?_
  refine W.loop (fun (k : Nat) env w => ∃ (j : Env) (ao : Option Addr) (co : Nat) (z : Int), env = mkE j [(1, .int .u64 (v : Int)), (7, .slice ao (bs ++ ByM.putK v n k).length co), (8, .int .i64 z)] ∧ k ≤ n ∧ z = (n : Int) - 1 - k ∧ On W0 (OwnB (.slice ao (bs ++ ByM.putK v n k).length co) (bs ++ ByM.putK v n k) :: L) w) (fun k => n - k) (0) ?_ ?_
  · have e0 : bs ++ ByM.putK v n 0 = bs := by simp [ByM.putK]
    refine ⟨_, a10, c10, ((n - 1 : Nat) : Int), mkE_of ⟨rfl, (by rw [e0]; rfl), rfl, trivial⟩, Nat.zero_le _, by omega, (by rw [e0]; exact h)⟩
  · rintro k env w ⟨j, ao, co, z, rfl, hk, hz, h⟩
    have hpl : (bs ++ ByM.putK v n k).length = bs.length + k := by rw [List.length_append, ByM.putK_length]
    refine W.seq ?_
    refine W.seq ?_
    refine W.region ?_
    refine WL.val run_move rfl rfl ?_
    refine WL.val (run_geq rfl rfl) rfl rfl ?_
    refine WL.nil ?_
    refine W.condIf rfl (fun c11 => ?_) (fun c11 => ?_)
    · skip
      refine W.skip ?_
      refine W.seq ?_
      refine W.block ?_
      have ob_ := Int.eq_ofNat_of_zero_le (show 0 ≤ z by omega)
      obtain ⟨q, rfl⟩ := ob_
      have hq : n - 1 - k = q := by omega
      have e1 : bs ++ ByM.putK v n (k + 1) = (bs ++ ByM.putK v n k) ++ [UInt8.ofNat (v / 2 ^ (8 * q))] := by rw [ByM.putK_succ, hq, List.append_assoc]
      have el : (bs ++ ByM.putK v n (k + 1)).length = (bs ++ ByM.putK v n k).length + 1 := by rw [e1, List.length_append]; rfl
      refine W.region ?_
      refine WL.val run_move rfl rfl ?_
      refine WL.val run_move rfl rfl ?_
      refine WL.val run_move rfl rfl ?_
      refine WL.val (run_mulN (m := 8) (n := q) rfl rfl (by omega)) rfl rfl ?_
      refine WL.val (run_shrN (m := v) (j := 8 * q) rfl rfl (by show 8 * q ≤ 64; omega)) rfl rfl ?_
      refine WL.val (run_convByte Try.underlying24 Try.underlying5 rfl) rfl rfl ?_
      refine WL.eff (eff_mkSlice (zl := [.int .u8 0]) (out := [.int .u8 _]) h Try.underlying23 Try.sizeOf5 Try.zeroValue5 (by decide) (by kernel_rfl) rfl rfl (by simp) (⟨⟨_, _, rfl, rfl, by decide⟩, trivial⟩) rfl rfl (by simp [maxLen])) rfl rfl ?_
      rintro _ w ⟨b30, rfl, h⟩
      refine WL.eff (eff_app (c2 := 1) (bytes := 1) h rfl rfl (h.cellsO (v := .slice (some ⟨b30, 0, none⟩) 1 1)) Try.underlying23 rfl rfl rfl rfl rfl (by omega) (by omega) (by simp [Value.oneCell'])) rfl rfl ?_
      rintro _ w ⟨a31, c31, rfl, h⟩
      have hbv : bytesV (bs ++ ByM.putK v n k) ++ [.int .u8 (((UInt8.ofNat (v / 2 ^ (8 * q))).toNat : Nat) : Int)] = bytesV ((bs ++ ByM.putK v n k) ++ [UInt8.ofNat (v / 2 ^ (8 * q))]) := by simp [bytesV, byteV]
      have h : On W0 (Own 1 (.slice a31 ((bs ++ ByM.putK v n k).length + 1) c31) ((bs ++ ByM.putK v n k).length + 1) (bytesV (bs ++ ByM.putK v n k) ++ [.int .u8 (((UInt8.ofNat (v / 2 ^ (8 * q))).toNat : Nat) : Int)]) :: _) w := h
      rw [hbv] at h
      refine WL.val run_assign rfl rfl ?_
      refine WL.nil ?_
      refine W.region ?_
      refine WL.val run_move rfl rfl ?_
      refine WL.val (run_sub rfl rfl (by omega) (by omega)) rfl rfl ?_
      refine WL.val run_assign rfl rfl ?_
      refine WL.nil ?_
      -- round, path LT
      exact ⟨k + 1, ⟨_, a31, c31, (q : Int) - 1, mkE_of ⟨rfl, (by rw [el]; rfl), rfl, trivial⟩, by omega, by omega, (by unfold OwnB; rw [el, e1]; exact h.to)⟩, by show n - (k + 1) < n - k; omega⟩
    · skip
      refine W.exit ?_
      refine W.seq ?_
      refine W.region ?_
      refine WL.val run_move rfl rfl ?_
      refine WL.eff (eff_call Try.call27 (clip_bytes h)) rfl rfl ?_
      rintro _ w ⟨rfl, h⟩
      refine WL.val run_assign rfl rfl ?_
      refine WL.nil ?_
      refine W.ret ?_
      refine bodyQ.r1 (v := .slice _ _ _) Try.results30 rfl ?_
      -- path LF
      have ob_ : k = n := by omega
      obtain rfl := ob_
      exact ⟨ao, rfl, h⟩

theorem bequal_ok {ax : Option Addr} {cx : Nat} {bs : List UInt8} {ay : Option Addr} {cy : Nat} {cs : List UInt8} (h : On W0 L w) (C : Gives L (Bytes (.slice ax bs.length cx) bs)) (C2 : Gives L (Bytes (.slice ay cs.length cy) cs)) : Calls Try.prog 14 #[.slice ax bs.length cx, .slice ay cs.length cy] w (Ret fun v w' => v = .bool (decide (bs = cs)) ∧ On W0 L w') := by
  refine enter Try.func14 rfl Try.ntmps14 rfl ?_
  refine W.seq ?_
  refine W.region ?_
  refine WL.val run_assign rfl rfl ?_
  refine WL.nil ?_
  refine W.seq ?_
  refine W.region ?_
  refine WL.val run_move rfl rfl ?_
  refine WL.val (run_bytesStr Try.underlying23 Try.underlying5 Try.underlying9 rfl (h.readsTo C)) rfl rfl ?_
  refine WL.val run_move rfl rfl ?_
  refine WL.val (run_bytesStr Try.underlying23 Try.underlying5 Try.underlying9 rfl (h.readsTo C2)) rfl rfl ?_
  refine WL.val (run_eqlStr rfl rfl) rfl rfl ?_
  refine WL.val run_assign rfl rfl ?_
  refine WL.nil ?_
  refine W.ret ?_
  refine bodyQ.r1 (v := .bool _) Try.results14 rfl ?_
  -- path 
  exact ⟨congrArg Value.bool (decide_eq_decide.2 (by simp only [Go.ByteArray.toList_eq])), h⟩

theorem clone_ints {ao : Option Addr} {cap : Nat} {l : List Int} (h : On W0 L w) (C : Gives L (Cells 1 (.slice ao l.length cap) l.length (cV l))) (hn : l.length ≤ 1000000000000) :
    Calls Try.prog 26 #[.slice ao l.length cap] w (Ret fun v w' => ∃ a c, v = .slice a l.length c ∧ On W0 (Own 1 (.slice a l.length c) l.length (cV l) :: L) w') := by
  refine enter Try.func26 rfl Try.ntmps26 rfl ?_
  have ob_ := (h.reads C).form
  obtain ⟨ao', cap', hv, hnc, hcm, hnone⟩ := ob_
  simp only [Value.slice.injEq] at hv
  obtain ⟨rfl, _, rfl⟩ := hv
  have hl := maxLen_eq
  refine W.seq ?_
  refine W.region ?_
  refine WL.val run_assign rfl rfl ?_
  refine WL.nil ?_
  refine W.seq ?_
  refine W.seq ?_
  refine W.region ?_
  refine WL.val run_move rfl rfl ?_
  refine WL.val (run_eqlSliceNil Try.underlying35 rfl rfl) rfl rfl ?_
  refine WL.nil ?_
  refine W.condB rfl (fun c2 => ?_) (fun c2 => ?_)
  · skip
    refine W.seq ?_
    refine W.region ?_
    refine WL.val run_assign rfl rfl ?_
    refine WL.nil ?_
    refine W.ret ?_
    refine bodyQ.r1 (v := .slice _ _ _) Try.results26 rfl ?_
    -- path T
    have h0 : cap = 0 := hnone (by simpa using c2)
    have hb : l = [] := List.eq_nil_of_length_eq_zero (by omega)
    subst hb
    exact ⟨none, 0, rfl, h.ownEmpty 1 none⟩
  · skip
    refine W.skip ?_
    refine W.seq ?_
    refine W.region ?_
    refine WL.eff (eff_mkSlice (zl := []) (out := []) h Try.underlying35 Try.sizeOf3 Try.zeroValue3 (by decide) (by simp) rfl rfl (by simp) (trivial) rfl rfl (by simp [maxLen])) rfl rfl ?_
    rintro _ w ⟨b5, rfl, h⟩
    refine WL.val run_move rfl rfl ?_
    refine WL.eff (eff_app0 (bytes := 8) h rfl rfl (h.readsTo C) Try.underlying35 rfl rfl rfl rfl rfl (by omega) (by omega) (cV_one)) rfl rfl ?_
    rintro _ w ⟨a, c, rfl, h⟩
    refine WL.val run_assign rfl rfl ?_
    refine WL.nil ?_
    refine W.ret ?_
    refine bodyQ.r1 (v := .slice _ _ _) Try.results26 rfl ?_
    -- path F
    exact ⟨_, _, rfl, h⟩

theorem index_ints {ao : Option Addr} {cap : Nat} {l : List Int} {x : Int} (h : On W0 L w) (C : Gives L (Cells 1 (.slice ao l.length cap) l.length (cV l))) : Calls Try.prog 72 #[.slice ao l.length cap, .int .i64 x] w (Ret fun v w' => (∃ z : Int, v = .int .i64 z ∧ (0 ≤ z ↔ x ∈ l)) ∧ On W0 L w') := by
  refine enter Try.func72 rfl Try.ntmps72 rfl ?_
  have hmx := maxLen_eq
  have ob_ := (h.readsTo C).bounds
  obtain ⟨hbc, hbm⟩ := ob_
  refine W.seq ?_
  refine W.region ?_
  refine WL.val run_assign rfl rfl ?_
  refine WL.nil ?_
  refine W.seq ?_
  refine W.seq ?_
  refine W.region ?_
  refine WL.val run_move rfl rfl ?_
  refine WL.val (run_lenSlice Try.underlying35 rfl) rfl rfl ?_
  refine WL.val run_move rfl rfl ?_
  refine WL.nil ?_
  refine W.block ?_
  refine W.loop (fun (k : Nat) env w => k ≤ l.length ∧ ∃ j, env = mkE j [(0, .slice ao l.length cap), (1, .int .i64 x), (7, .int .i64 (l.length : Nat)), (8, .int .i64 (k : Nat))] ∧ (∀ q, q < k → l[q]? ≠ some x) ∧ On W0 L w) (fun k => l.length - k) (0) ?_ ?_
  · exact ⟨Nat.zero_le _, _, mkE_of ⟨rfl, rfl, rfl, rfl, trivial⟩, (fun q hq => by omega), h⟩
  · rintro k env w ⟨hk, j, rfl, hno, h⟩
    refine W.seq ?_
    refine W.region ?_
    refine WL.val (run_lss rfl rfl) rfl rfl ?_
    refine WL.nil ?_
    refine W.seq ?_
    refine W.condIf rfl (fun c5 => ?_) (fun c5 => ?_)
    · skip
      refine W.skip ?_
      refine W.seq ?_
      have ob_ : ∃ y, l[k]? = some y := ⟨l[k]'(by omega), by simp⟩
      obtain ⟨y, hy⟩ := ob_
      have ob_ := (h.readsTo C).addr (by omega)
      obtain ⟨bx, ox, rfl⟩ := ob_
      refine W.block ?_
      refine W.seq ?_
      refine W.region ?_
      refine WL.val run_move rfl rfl ?_
      refine WL.val run_assign rfl rfl ?_
      refine WL.nil ?_
      refine W.seq ?_
      refine W.region ?_
      refine WL.val run_move rfl rfl ?_
      refine WL.val run_move rfl rfl ?_
      refine WL.val run_move rfl rfl ?_
      refine WL.val (run_indexAddr Try.underlying35 Try.sizeOf3 rfl rfl (by omega) (by omega)) rfl rfl ?_
      refine WL.val (run_load1 Try.isAgg3 rfl ((h.readsTo C).elem (i := k) (vs := [.int .i64 y]) (by omega) (cV_get hy) 0 _ rfl)) rfl rfl ?_
      refine WL.val (run_eql rfl rfl) rfl rfl ?_
      refine WL.nil ?_
      refine W.condIf rfl (fun c11 => ?_) (fun c11 => ?_)
      · skip
        refine W.seq ?_
        refine W.region ?_
        refine WL.val run_move rfl rfl ?_
        refine WL.val run_assign rfl rfl ?_
        refine WL.nil ?_
        refine W.ret ?_
        refine bodyQ.r1 (v := .int .i64 _) Try.results72 rfl ?_
        -- path LTT
        have e : x = y := c11
        subst e
        exact ⟨⟨_, rfl, iff_of_true (by omega) (List.mem_of_getElem? hy)⟩, h⟩
      · skip
        refine W.skip ?_
        refine W.region ?_
        refine WL.val (run_incN rfl rfl (by omega)) rfl rfl ?_
        refine WL.val run_move rfl rfl ?_
        refine WL.nil ?_
        -- round, path LTF
        exact ⟨k + 1, ⟨by omega, _, mkE_of ⟨rfl, rfl, rfl, rfl, trivial⟩, (fun q hq => by
          by_cases hqk : q = k
          · subst hqk; rw [hy]; intro e; simp only [Option.some.injEq] at e; exact c11 e.symm
          · exact hno q (by omega)), h⟩, by show l.length - (k + 1) < l.length - k; omega⟩
    · skip
      refine W.exit ?_
      refine W.seq ?_
      refine W.region ?_
      refine WL.val run_assign rfl rfl ?_
      refine WL.nil ?_
      refine W.ret ?_
      refine bodyQ.r1 (v := .int .i64 _) Try.results72 rfl ?_
      -- path LF
      refine ⟨⟨_, rfl, iff_of_false (by decide) (fun hm => ?_)⟩, h⟩
      have ob_ := List.getElem?_of_mem hm
      obtain ⟨q, hq⟩ := ob_
      exact hno q (by have := (List.getElem?_eq_some_iff.1 hq).1; omega) hq

theorem contains_ints {ao : Option Addr} {cap : Nat} {l : List Int} {x : Int} (h : On W0 L w) (C : Gives L (Cells 1 (.slice ao l.length cap) l.length (cV l))) : Calls Try.prog 67 #[.slice ao l.length cap, .int .i64 x] w (Ret fun v w' => v = .bool (decide (x ∈ l)) ∧ On W0 L w') := by
  refine enter Try.func67 rfl Try.ntmps67 rfl ?_
  refine W.seq ?_
  refine W.region ?_
  refine WL.val run_assign rfl rfl ?_
  refine WL.nil ?_
  refine W.seq ?_
  refine W.region ?_
  refine WL.val run_move rfl rfl ?_
  refine WL.val run_move rfl rfl ?_
  refine WL.eff (eff_call Try.call72 (index_ints h C)) rfl rfl ?_
  rintro _ w ⟨⟨z, rfl, hz⟩, h⟩
  refine WL.val (run_geq rfl rfl) rfl rfl ?_
  refine WL.val run_assign rfl rfl ?_
  refine WL.nil ?_
  refine W.ret ?_
  refine bodyQ.r1 (v := .bool _) Try.results67 rfl ?_
  -- path 
  exact ⟨congrArg Value.bool (decide_eq_decide.2 hz), h⟩

theorem sgood_ok {ax : Option Addr} {cx : Nat} {bs : List UInt8} (h : On W0 L w) (C : Gives L (Bytes (.slice ax bs.length cx) bs)) (hn : bs.length ≤ 1000000000000) : Calls Try.prog 21 #[.slice ax bs.length cx] w (Ret fun v w' => ∃ a, v = (gave bs).val (.slice a bs.length bs.length) ∧ On W0 (OwnB (.slice a bs.length bs.length) bs :: L) w') := by
  refine enter Try.func21 rfl Try.ntmps21 rfl ?_
  refine W.seq ?_
  refine W.region ?_
  refine WL.eff (eff_alloc h Try.zeroValue31 rfl) rfl rfl ?_
  rintro _ w ⟨b2, rfl, h⟩
  refine WL.nil ?_
  refine W.seq ?_
  refine W.region ?_
  refine WL.val run_move rfl rfl ?_
  refine WL.eff (eff_call Try.call28 (clone_bytes (bs := bs) h (Gives.to C) (by omega))) rfl rfl ?_
  rintro _ w ⟨a4, c4, rfl, h⟩
  refine WL.eff (eff_call Try.call27 (clip_bytes h)) rfl rfl ?_
  rintro _ w ⟨rfl, h⟩
  refine WL.val (run_buildS (pl := [(0, 1), (1, 1), (2, 1), (3, 1), (4, 1)]) (out := [.int .i64 _, .int .i64 _, .int .i64 _, .slice _ _ _, .int .i64 _]) Try.underlying31 Try.zeroValue31 (fun w => by kernel_rfl) rfl (⟨⟨_, _, rfl, rfl, by decide⟩, ⟨⟨_, _, rfl, rfl, by decide⟩, trivial⟩⟩) rfl) rfl rfl ?_
  refine WL.eff (eff_storeN (vs := [.int .i64 _, .int .i64 _, .int .i64 _, .slice _ _ _, .int .i64 _]) h Try.sizeOf31 rfl rfl rfl rfl rfl (fun k _ _ => free0 k)) rfl rfl ?_
  rintro _ w h
  try simp only [splice, List.take_zero, List.take_succ_cons, List.take_nil, List.drop_succ_cons, List.drop_zero, List.drop_nil, List.nil_append, List.cons_append, List.append_nil, List.length_cons, List.length_nil, Nat.zero_add, Nat.reduceAdd] at h
  refine WL.nil ?_
  refine W.ret ?_
  refine bodyQ.rcB (vs := [.int .i64 _, .int .i64 _, .int .i64 _, .slice _ _ _, .int .i64 _]) h Try.results21 Try.isAgg31 Try.sizeOf31 rfl rfl rfl ?_
  -- path 
  exact ⟨a4, rfl, h.to⟩

theorem laid1_ok {bx bo n k at_ cy : Nat} {ay : Option Addr} {xs ys : List UInt8} (hat : at_ < n) (hk : ys.length = k) (hin : at_ + k ≤ n) (hn : n ≤ 1000) (h : On W0 (blk bx [.slice (some ⟨bo, 0, none⟩) n n] 23 :: Own 1 (.slice (some ⟨bo, 0, none⟩) n n) n (bytesV xs) :: L) w) (C : Gives L (Bytes (.slice ay ys.length cy) ys)) : Calls Try.prog 50 #[.int .i64 (at_ : Int), .slice ay k cy, .pointer (some ⟨bx, 0, none⟩)] w (Ret fun v w' => On W0 (blk bx [.slice (some ⟨bo, 0, none⟩) n n] 23 :: Own 1 (.slice (some ⟨bo, 0, none⟩) n n) n (bytesV (over xs at_ ys)) :: L) w') := by
  refine enter Try.func50 rfl Try.ntmps50 rfl ?_
  subst hk
  have ob_ := sliced_part (b := bo) (o := 0) (lo := at_) (hi := n) (c := n) (by omega) (Nat.le_refl _)
  obtain ⟨lo, hlo, hlo2⟩ := ob_
  have hlo3 : lo = at_ := by omega
  subst hlo3
  refine W.region ?_
  refine WL.val (run_load1 Try.isAgg23 rfl (h.cellB rfl)) rfl rfl ?_
  refine WL.val run_move rfl rfl ?_
  refine WL.val (run_cutLV Try.underlying23 Try.sizeOf5 rfl rfl (by omega) hlo) rfl rfl ?_
  refine WL.val run_move rfl rfl ?_
  refine WL.eff (eff_copyIn (lo := lo) (m := n - lo) h.p1 rfl rfl (h.readsTo C) rfl Try.underlying23 Try.sizeOf5 (by omega) bytes_one) rfl rfl ?_
  rintro _ w ⟨_, h⟩
  rw [List.take_of_length_le (by simp; omega), bytesV_over] at h
  refine WL.nil ?_
  refine bodyQ.fall ?_
  refine bodyQ.r0 Try.results50 ?_
  -- path 
  exact h.to

end Go.Proofs.Ytdpakoefdpmebaa
