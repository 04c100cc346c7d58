/-
  The document's unit: numbers, maps, blocks: the contracts. Lines of walks printed by a program of the prover's.
-/
import Derived.Test.YtdpakoefdpmebaaGreatAct
import Derived.Test.YtdpakoefdpmebaaGreatRefModel
namespace Go.Proofs.YtdpakoefdpmebaaGreat
open Go Go.Sl Go.Sl.BitM Go.Sl.SpM Go.Sl.RsM Go.Sl.ByM Go.Sl.UnM
set_option linter.unusedVariables false
set_option linter.unusedSimpArgs false
set_option maxHeartbeats 1000000
set_option maxRecDepth 8000
variable {W0 w : World} {L F : List HProp}

theorem rput_ok {ax : Option Addr} {cx v n : Nat} {bs : List UInt8} (h : On W0 (OwnB (.slice ax bs.length cx) bs :: L) w) (hn1 : 1 ≤ n) (hn8 : n ≤ 8) (hv : v < 18446744073709551616) (hb : bs.length ≤ 100000000000) : Calls Tryz.prog 113 #[.slice ax bs.length cx, .int .u64 (v : Int), .int .i64 (n : Int)] (w) (Ret fun r w' => ∃ a c, r = .slice a (bs ++ be v n).length c ∧ On W0 (OwnB (.slice a (bs ++ be v n).length c) (bs ++ be v n) :: L) w') := by
  refine enter Tryz.func113 rfl Tryz.ntmps113 rfl ?_
  have hmx := maxLen_eq
  unfold be
  refine W.seq (W.region (WL.val run_assign rfl rfl (WL.nil (W.seq (W.seq (W.region (WL.val run_move rfl rfl ?_)))))))
  refine WL.val (run_lssF rfl rfl (by omega)) rfl rfl (WL.val run_move rfl rfl (WL.val run_move rfl rfl (WL.val (run_gtrF rfl rfl (by omega)) rfl rfl (WL.val (run_pickF rfl) rfl rfl (WL.nil (W.condF rfl (W.skip ?_)))))))
  refine W.seq (W.seq (W.region (WL.val run_move rfl rfl (WL.val (run_subN (m := n) (n := 1) rfl rfl (by omega) (by omega)) rfl rfl (WL.val run_assign rfl rfl (WL.nil (W.block ?_)))))))
  refine W.loop (fun (k : Nat) env w => ∃ (j : Env) (ao : Option Addr) (co : Nat) (z : Int), env = mkE j [(0, .slice ao (bs ++ putK v n k).length co), (1, .int .u64 (v : Int)), (7, .int .i64 z)] ∧ k ≤ n ∧ z = (n : Int) - 1 - k ∧ On W0 (OwnB (.slice ao (bs ++ putK v n k).length co) (bs ++ putK v n k) :: L) w) (fun k => n - k) (0) ?_ ?_
  · have e0 : bs ++ ByM.putK v n 0 = bs := by simp [ByM.putK]
    refine ⟨_, ax, cx, ((n - 1 : Nat) : Int), mkE_of ⟨(by rw [e0]; rfl), rfl, rfl, trivial⟩, Nat.zero_le _, by omega, (by rw [e0]; exact h)⟩
  rintro k env w ⟨j, ao, co, z, rfl, hk, hz, h⟩
  have hpl : (bs ++ putK v n k).length = bs.length + k := by rw [List.length_append, ByM.putK_length]
  refine W.seq (W.seq (W.region (WL.val run_move rfl rfl ?_)))
  refine WL.dec (run_geq rfl rfl) rfl rfl (fun c18 => ?_) (fun c18 => ?_)
  ·
   refine WL.nil (W.condT rfl (W.skip (W.seq (W.block ?_))))
   have ob_ := Int.eq_ofNat_of_zero_le (show 0 ≤ z by omega)
   obtain ⟨q, rfl⟩ := ob_
   have hq : n - 1 - k = q := by omega
   have e1 : bs ++ ByM.putK v n (k + 1) = (bs ++ putK v n k) ++ [UInt8.ofNat (v / 2 ^ (8 * q))] := by rw [ByM.putK_succ, hq, List.append_assoc]
   have el : (bs ++ ByM.putK v n (k + 1)).length = (bs ++ putK v n k).length + 1 := by rw [e1, List.length_append]; rfl
   refine W.region (WL.val run_move rfl rfl (WL.val run_move rfl rfl (WL.val run_move rfl rfl (WL.val (run_convIn Tryz.underlying3 Tryz.underlying178 rfl (by show (0 : Int) ≤ _; omega) (by show _ ≤ (18446744073709551615 : Int); omega)) rfl rfl (WL.val (run_mulK (m := 8) (n := q) rfl rfl (by show _ ≤ (18446744073709551615 : Int); omega)) rfl rfl (WL.val (run_shrN (m := v) (j := 8 * q) rfl rfl (by show 8 * q ≤ 64; omega)) rfl rfl (WL.val (run_convByte Tryz.underlying23 Tryz.underlying5 rfl) rfl rfl ?_)))))))
   refine WL.eff (eff_mkSlice (zl := [.int .u8 0]) (out := [.int .u8 _]) h Tryz.underlying22 Tryz.sizeOf5 Tryz.zeroValue5 (by decide) (by kernel_rfl) rfl rfl (by simp) (⟨⟨_, _, rfl, rfl, by decide⟩, trivial⟩) rfl rfl (by simp [maxLen])) rfl rfl ?_
   rintro _ w ⟨b28, rfl, h⟩
   refine WL.eff (eff_app (c2 := 1) (bytes := 1) (h.fetch (OwnB (.slice ao (bs ++ putK v n k).length co) (bs ++ putK v n k))) rfl rfl (h.cellsO (v := .slice (some ⟨b28, 0, none⟩) 1 1)) Tryz.underlying22 rfl rfl rfl rfl rfl (by omega) (by omega) (by simp [Value.oneCell'])) rfl rfl ?_
   rintro _ w ⟨a29, c29, rfl, h⟩
   have hbv : bytesV (bs ++ putK v n k) ++ [.int .u8 (((UInt8.ofNat (v / 2 ^ (8 * q))).toNat : Nat) : Int)] = bytesV ((bs ++ putK v n k) ++ [UInt8.ofNat (v / 2 ^ (8 * q))]) := by simp [bytesV, byteV]
   have h : On W0 (Own 1 (.slice a29 ((bs ++ putK v n k).length + 1) c29) ((bs ++ putK v n k).length + 1) (bytesV (bs ++ putK v n k) ++ [.int .u8 (((UInt8.ofNat (v / 2 ^ (8 * q))).toNat : Nat) : Int)]) :: _) w := h
   rw [hbv] at h
   refine WL.val run_assign rfl rfl (WL.nil (W.region (WL.val run_move rfl rfl (WL.val (run_sub rfl rfl (by omega) (by omega)) rfl rfl (WL.val run_assign rfl rfl (WL.nil ?_))))))
   exact ⟨k + 1, ⟨_, a29, c29, (q : Int) - 1, mkE_of ⟨(by rw [el]; rfl), rfl, rfl, trivial⟩, by omega, by omega, (by unfold OwnB; rw [el, e1]; exact h.to)⟩, by show n - (k + 1) < n - k; omega⟩
  refine WL.nil (W.condF rfl (W.exit (W.seq (W.region (WL.val run_move rfl rfl (WL.val run_assign rfl rfl (WL.nil ?_)))))))
  refine W.ret (bodyQ.r1 (v := .slice _ _ _) Tryz.results113 rfl ?_)
  have ob_ : k = n := by omega
  obtain rfl := ob_
  exact ⟨ao, co, rfl, h⟩


theorem over_step {l bs : List UInt8} {o k : Nat} {x : UInt8} (hx : bs[k]? = some x) (h : o + bs.length ≤ l.length) : (over l o (bs.take k)).set (o + k) x = over l o (bs.take (k + 1)) := by
  have hk := (List.getElem?_eq_some_iff.1 hx).1
  have l1 : (bs.take k).length = k := by rw [List.length_take]; omega
  have l2 : (bs.take (k + 1)).length = k + 1 := by rw [List.length_take]; omega
  have h1 := over_length (l := l) (o := o) (bs := bs.take k) (by omega)
  apply List.ext_getElem?
  intro j
  rw [List.getElem?_set, over_get (by omega), over_get (by omega), l1, l2]
  by_cases e : o + k = j
  · subst e
    rw [if_pos rfl, if_pos (by omega), if_pos (by omega), List.getElem?_take, if_pos (by omega), show o + k - o = k by omega, hx]
  · rw [if_neg e]
    by_cases e2 : o ≤ j ∧ j < o + k
    · rw [if_pos e2, if_pos (by omega), List.getElem?_take, List.getElem?_take, if_pos (by omega), if_pos (by omega)]
    · rw [if_neg e2, if_neg (by omega)]
theorem bytesV_set {l : List UInt8} {i : Nat} {x : UInt8} : (bytesV l).set i (.int .u8 ((x.toNat : Nat) : Int)) = bytesV (l.set i x) := by
  unfold bytesV; rw [List.map_set]

theorem rnew13_ok {n : Nat} (hn1 : 1 ≤ n) (hn : n ≤ 1024) (h : On W0 L w) : Calls Tryz.prog 107 #[.int .i64 (n : Int)] w (Ret fun v w' => ∃ a c, v = .slice a (List.replicate ((n + 7) / 8) (0 : UInt8)).length c ∧ On W0 (OwnB (.slice a (List.replicate ((n + 7) / 8) (0 : UInt8)).length c) (List.replicate ((n + 7) / 8) 0) :: L) w') := by
  refine enter Tryz.func107 rfl Tryz.ntmps107 rfl ?_
  have hmx := maxLen_eq
  refine W.seq (W.region (WL.val run_assign rfl rfl (WL.nil (W.seq (W.seq (W.region (WL.val run_move rfl rfl ?_)))))))
  refine WL.val (run_lssF rfl rfl (by omega)) rfl rfl (WL.val run_move rfl rfl (WL.val run_move rfl rfl (WL.val (run_gtrF rfl rfl (by omega)) rfl rfl (WL.val (run_pickF rfl) rfl rfl (WL.nil (W.condF rfl (W.skip ?_)))))))
  refine W.seq (W.region (WL.val run_move rfl rfl (WL.val (run_addN (m := n) (n := 7) rfl rfl (by omega)) rfl rfl (WL.val (run_quoN (m := n + 7) (n := 8) rfl rfl (by omega) (by omega)) rfl rfl (WL.eff (eff_make (n := (n + 7) / 8) (bytes := 1) h (by rfl) (by rfl) Tryz.underlying22 rfl rfl rfl rfl rfl (by omega) (by omega)) rfl rfl ?_)))))
  rintro _ w ⟨b12, rfl, h⟩
  refine WL.val run_assign rfl rfl (WL.nil (W.ret (bodyQ.r1 (v := .slice _ _ _) Tryz.results107 rfl ?_)))
  have e1 : bytesV (List.replicate ((n + 7) / 8) 0) = List.replicate ((n + 7) / 8) (.int .u8 0) := by simp [bytesV, byteV]
  rw [List.length_replicate]
  refine ⟨_, _, rfl, ?_⟩
  unfold OwnB
  rw [e1, List.length_replicate]
  exact h.to

theorem rhas13_ok {ax : Option Addr} {cx : Nat} {bs : List UInt8} {i n : Nat} (h : On W0 L w) (C : Gives L (Cells 1 (.slice ax n cx) n (bytesV bs))) (hnl : bs.length = n) (hb : n ≤ 1000) (hi : i ≤ 100000) : Calls Tryz.prog 159 #[.slice ax n cx, .int .i64 (i : Int)] w (Ret fun v w' => (∃ b, v = .bool b) ∧ On W0 L w') := by
  refine enter Tryz.func159 rfl Tryz.ntmps159 rfl (W.seq (W.region (WL.val run_assign rfl rfl (WL.nil (W.seq (W.region (WL.val run_move rfl rfl ?_)))))))
  refine WL.val (run_geqT rfl rfl (by omega)) rfl rfl (WL.val run_move rfl rfl (WL.val run_move rfl rfl (WL.val (run_quoN (m := i) (n := 8) rfl rfl (by omega) (by omega)) rfl rfl (WL.val run_move rfl rfl (WL.val (run_lenSlice Tryz.underlying22 rfl) rfl rfl ?_)))))
  refine WL.dec (run_lss rfl rfl) rfl rfl (fun c12 => ?_) (fun c12 => ?_)
  ·
   refine WL.val (run_pickT rfl) rfl rfl (WL.val run_move rfl rfl ?_)
   have CC := h.readsTo C
   have ha := CC.addr (by omega)
   obtain ⟨bq, oq, hal⟩ := ha
   subst hal
   have hx : ∃ x, bs[i / 8]? = some x := ⟨bs[i / 8]'(by omega), by simp⟩
   obtain ⟨x, hx⟩ := hx
   have hx256 := x.toNat_lt
   refine WL.val run_move rfl rfl (WL.val run_move rfl rfl (WL.val (run_quoN (m := i) (n := 8) rfl rfl (by omega) (by omega)) rfl rfl (WL.val (run_indexAddr Tryz.underlying22 Tryz.sizeOf5 rfl rfl (by omega) (by omega)) rfl rfl (WL.val (run_load1 Tryz.isAgg5 rfl ((h.readsTo C).elem (i := i / 8) (vs := [.int .u8 x.toNat]) (by omega) (bytes_row hx) 0 _ rfl)) rfl rfl (WL.val run_move rfl rfl (WL.val (run_remN (m := i) (n := 8) rfl rfl (by omega)) rfl rfl (WL.val (run_convIn Tryz.underlying3 Tryz.underlying178 rfl (by show (0 : Int) ≤ _; omega) (by show _ ≤ (18446744073709551615 : Int); omega)) rfl rfl ?_)))))))
   refine WL.val (run_shrN (j := i % 8) rfl rfl (by show i % 8 ≤ 8; omega)) rfl rfl (WL.val (run_andMod (n := 1) 1 rfl rfl (by show ((x.toNat / 2 ^ (i % 8) : Nat) : Int) ≤ 255; have := Nat.div_le_self x.toNat (2 ^ (i % 8)); omega) (by decide) rfl) rfl rfl (WL.val (run_eql rfl rfl) rfl rfl (WL.val (run_pickT rfl) rfl rfl (WL.val run_assign rfl rfl (WL.nil (W.ret (bodyQ.r1 (v := .bool _) Tryz.results159 rfl ?_)))))))
   exact ⟨⟨_, rfl⟩, h⟩
  refine WL.val (run_pickT rfl) rfl rfl (WL.val run_move rfl rfl (WL.skip rfl rfl (WL.skip rfl rfl (WL.skip rfl rfl (WL.skip rfl rfl (WL.skip rfl rfl (WL.skip rfl rfl ?_)))))))
  refine WL.skip rfl rfl (WL.skip rfl rfl (WL.skip rfl rfl (WL.skip rfl rfl (WL.skip rfl rfl (WL.val (run_pickF rfl) rfl rfl (WL.val run_assign rfl rfl (WL.nil ?_)))))))
  refine W.ret (bodyQ.r1 (v := .bool _) Tryz.results159 rfl ?_)
  exact ⟨⟨_, rfl⟩, h⟩

theorem rput13_ok {ax : Option Addr} {cx : Nat} {bs : List UInt8} {p q : Nat} {s : Bool} (h : On W0 L w) (C : Gives L (Bytes (.slice ax bs.length cx) bs)) (hb : bs.length ≤ 1000) (hp : p ≤ 10000) (hq : q ≤ 10000) : Calls Tryz.prog 149 #[.slice ax bs.length cx, .int .i64 (p : Int), .int .i64 (q : Int), .bool s] w (Ret fun v w' => ∃ a c z, ∃ mm : List UInt8, mm.length = bs.length ∧ v = .tuple #[.slice a mm.length c, .int .i64 z] ∧ On W0 (OwnB (.slice a mm.length c) mm :: L) w') := by
  refine enter Tryz.func149 rfl Tryz.ntmps149 rfl ?_
  have hmx := maxLen_eq
  have hbb := Cells.bounds (h.readsTo C)
  obtain ⟨hbc, hbm⟩ := hbb
  refine W.seq (W.region (WL.val run_assign rfl rfl (WL.val run_assign rfl rfl (WL.nil (W.seq (W.region (WL.eff (eff_mkSlice (zl := []) (out := []) h Tryz.underlying22 Tryz.sizeOf5 Tryz.zeroValue5 (by decide) (by simp) rfl rfl (by simp) (trivial) rfl rfl (by simp [maxLen])) rfl rfl ?_)))))))
  rintro _ w ⟨b13, rfl, h⟩
  refine WL.val run_move rfl rfl (WL.eff (eff_app0 (bytes := 1) h rfl rfl (h.readsTo (C)) Tryz.underlying22 rfl rfl rfl rfl rfl (by omega) (by omega) bytes_one) rfl rfl ?_)
  rintro _ w ⟨a15, c15, rfl, h⟩
  refine WL.val run_assign rfl rfl (WL.nil (W.seq (W.seq (W.region (WL.val run_move rfl rfl (WL.val (run_lssF rfl rfl (by omega)) rfl rfl (WL.val run_move rfl rfl ?_)))))))
  refine WL.val run_move rfl rfl (WL.val (run_lss rfl rfl) rfl rfl (WL.val (run_pickF rfl) rfl rfl (WL.nil ?_)))
  refine W.condIf rfl (fun c3 => ?_) (fun c3 => ?_)
  ·
   refine W.seq (W.region (WL.val run_move rfl rfl (WL.val run_assign rfl rfl (WL.val run_assign rfl rfl (WL.nil (W.ret (bodyQ.r2 (v1 := .slice _ _ _) (v2 := .int .i64 _) Tryz.results149 rfl rfl ?_)))))))
   exact ⟨a15, c15, 0, bs, rfl, rfl, h.to⟩
  refine W.skip (W.seq (W.region (WL.val run_assign rfl rfl (WL.nil (W.seq (W.seq (W.region ?_)))))))
  refine WL.val run_move rfl rfl (WL.val run_assign rfl rfl (WL.nil (W.block ?_)))
  refine W.loop (fun (k : Nat) env w => ∃ (j : Env) (mm : List UInt8) (z : Nat), env = mkE j [(1, .int .i64 (p : Int)), (2, .int .i64 (q : Int)), (3, .bool s), (10, .slice a15 bs.length c15), (11, .int .i64 (z : Int)), (12, .int .i64 ((p + k : Nat) : Int))] ∧ mm.length = bs.length ∧ z ≤ k ∧ On W0 (Own 1 (.slice a15 bs.length c15) bs.length (bytesV mm) :: L) w) (fun k => 8 * bs.length - (p + k)) (0) ?_ ?_
  · exact ⟨_, bs, 0, mkE_of ⟨rfl, rfl, rfl, rfl, rfl, rfl, trivial⟩, rfl, Nat.zero_le _, h.to⟩
  rintro k env w ⟨j, mm, z, rfl, hmm, hz, h⟩
  refine W.seq (W.seq (W.region (WL.val run_move rfl rfl (WL.val run_move rfl rfl (WL.val (run_lenSlice Tryz.underlying22 rfl) rfl rfl (WL.val (run_mulN (m := 8) (n := bs.length) rfl rfl (by omega)) rfl rfl ?_))))))
  refine WL.dec (run_lss rfl rfl) rfl rfl (fun c28 => ?_) (fun c28 => ?_)
  ·
   refine WL.val run_move rfl rfl (WL.val run_move rfl rfl (WL.val run_move rfl rfl (WL.val (run_sub rfl rfl (by omega) (by omega)) rfl rfl (WL.val run_move rfl rfl (WL.val (run_lss rfl rfl) rfl rfl (WL.val (run_pickT rfl) rfl rfl (WL.nil ?_)))))))
   refine W.condIf rfl (fun c12 => ?_) (fun c12 => ?_)
   ·
    refine W.skip (W.seq (W.block (W.seq (W.region (WL.val run_move rfl rfl (WL.val run_move rfl rfl (WL.eff (eff_call Tryz.call159 (rhas13_ok (bs := mm) (i := p + k) (n := bs.length) (ax := a15) (cx := c15) h (Gives.ownO (v := .slice a15 bs.length c15)) hmm (by omega) (by omega))) rfl rfl ?_)))))))
    rintro _ w ⟨⟨b40, rfl⟩, h⟩
    refine WL.val run_move rfl rfl (WL.val (run_neqBool Tryz.underlying4 rfl rfl) rfl rfl (WL.nil ?_))
    refine W.condB rfl (fun c17 => ?_) (fun c17 => ?_)
    ·
     refine W.seq ?_
     have ha := Own.addr h (by omega)
     obtain ⟨bq, oq, hal⟩ := ha
     subst hal
     have hx : ∃ x, mm[(p + k) / 8]? = some x := ⟨mm[(p + k) / 8]'(by omega), by simp⟩
     obtain ⟨x, hx⟩ := hx
     have hx256 := x.toNat_lt
     have hp2 : 1 * 2 ^ ((p + k) % 8) ≤ 255 := by have := Nat.pow_le_pow_right (n := 2) (by omega) (show (p + k) % 8 ≤ 7 by omega); omega
     have hxr := xor_lt x (show (p + k) % 8 < 8 by omega)
     rw [← Nat.one_mul (2 ^ ((p + k) % 8))] at hxr
     refine W.region (WL.val run_move rfl rfl (WL.val run_move rfl rfl (WL.val (run_quoN (m := p + k) (n := 8) rfl rfl (by omega) (by omega)) rfl rfl (WL.val run_move rfl rfl (WL.val run_move rfl rfl (WL.val (run_quoN (m := p + k) (n := 8) rfl rfl (by omega) (by omega)) rfl rfl (WL.val (run_indexAddr Tryz.underlying22 Tryz.sizeOf5 rfl rfl (by omega) (by omega)) rfl rfl ?_)))))))
     refine WL.val (run_load1 Tryz.isAgg5 rfl ((h.cellsO (v := .slice (some ⟨bq, oq, none⟩) bs.length c15)).elem (i := (p + k) / 8) (vs := [.int .u8 x.toNat]) (by omega) (bytes_row hx) 0 _ rfl)) rfl rfl (WL.val run_move rfl rfl (WL.val (run_remN (m := p + k) (n := 8) rfl rfl (by omega)) rfl rfl (WL.val (run_convIn Tryz.underlying3 Tryz.underlying178 rfl (by show (0 : Int) ≤ _; omega) (by show _ ≤ (18446744073709551615 : Int); omega)) rfl rfl (WL.val (run_shlN (m := 1) (j := (p + k) % 8) rfl rfl (by show (p + k) % 8 ≤ 8; omega) (by show _ ≤ (255 : Int); omega)) rfl rfl (WL.val (run_xorN rfl rfl (by show _ ≤ (255 : Int); omega) (by show _ ≤ (255 : Int); omega) (by show _ ≤ (255 : Int); omega)) rfl rfl (WL.val (run_indexAddr Tryz.underlying22 Tryz.sizeOf5 rfl rfl (by omega) (by omega)) rfl rfl (WL.eff (eff_storeOwn (k := (p + k) / 8 * 1) (v := .int .u8 _) h Tryz.sizeOf5 rfl rfl rfl (by omega)) rfl rfl ?_)))))))
     rintro _ w h
     rw [Nat.mul_one, bytesV_flip hx] at h
     refine WL.nil (W.region (WL.val run_move rfl rfl (WL.val (run_incN rfl rfl (by omega)) rfl rfl (WL.val run_assign rfl rfl (WL.nil (W.region (WL.val run_move rfl rfl ?_)))))))
     refine WL.val (run_incN rfl rfl (by omega)) rfl rfl (WL.val run_assign rfl rfl (WL.nil ?_))
     exact ⟨k + 1, ⟨_, flip mm (p + k), z + 1, mkE_of ⟨rfl, rfl, rfl, rfl, rfl, rfl, trivial⟩, by rw [flip_length, hmm], by omega, h.to⟩, by show 8 * bs.length - (p + (k + 1)) < 8 * bs.length - (p + k); omega⟩
    refine W.skip (W.region (WL.val run_move rfl rfl (WL.val (run_incN rfl rfl (by omega)) rfl rfl (WL.val run_assign rfl rfl (WL.nil ?_)))))
    exact ⟨k + 1, ⟨_, mm, z, mkE_of ⟨rfl, rfl, rfl, rfl, rfl, rfl, trivial⟩, hmm, by omega, h.to⟩, by show 8 * bs.length - (p + (k + 1)) < 8 * bs.length - (p + k); omega⟩
   refine W.exit (W.seq (W.region (WL.val run_move rfl rfl (WL.val run_move rfl rfl (WL.val run_assign rfl rfl (WL.val run_assign rfl rfl (WL.nil ?_)))))))
   refine W.ret (bodyQ.r2 (v1 := .slice _ _ _) (v2 := .int .i64 _) Tryz.results149 rfl rfl ?_)
   refine ⟨a15, c15, (z : Int), mm, hmm, ?_, ?_⟩
   · rw [hmm]
   · unfold OwnB; rw [hmm]; exact h.to
  refine WL.val run_move rfl rfl (WL.skip rfl rfl (WL.skip rfl rfl (WL.skip rfl rfl (WL.skip rfl rfl (WL.skip rfl rfl (WL.val (run_pickF rfl) rfl rfl (WL.nil ?_)))))))
  refine W.condF rfl (W.exit (W.seq (W.region (WL.val run_move rfl rfl (WL.val run_move rfl rfl (WL.val run_assign rfl rfl (WL.val run_assign rfl rfl ?_)))))))
  refine WL.nil (W.ret (bodyQ.r2 (v1 := .slice _ _ _) (v2 := .int .i64 _) Tryz.results149 rfl rfl ?_))
  refine ⟨a15, c15, (z : Int), mm, hmm, ?_, ?_⟩
  · rw [hmm]
  · unfold OwnB; rw [hmm]; exact h.to

theorem rin14_ok {b : Nat} {N : Nat} {cs : List Value} {e : Nat} {fr : Nat × Nat} {at_ n : Int} (hN : N ≤ 1024) (h : On W0 L w) [HasBlk L b (.int .i64 (N : Int) :: cs) e fr] : Calls Tryz.prog 115 #[.pointer (some ⟨b, 0, none⟩), .int .i64 at_, .int .i64 n] w (Ret fun v w' => ((v = .bool true ∧ 0 ≤ n ∧ n ≤ 32 ∧ 0 ≤ at_ ∧ at_ ≤ N ∧ n ≤ N - at_) ∨ (v = .bool false ∧ ¬ (0 ≤ n ∧ n ≤ 32 ∧ 0 ≤ at_ ∧ at_ ≤ N ∧ n ≤ N - at_))) ∧ On W0 L w') := by
  refine enter Tryz.func115 rfl Tryz.ntmps115 rfl (W.seq (W.region (WL.val run_assign rfl rfl (WL.nil (W.seq (W.region (WL.val run_move rfl rfl ?_)))))))
  refine WL.dec (run_geq rfl rfl) rfl rfl (fun c8 => ?_) (fun c8 => ?_)
  ·
   refine WL.val run_move rfl rfl (WL.val run_move rfl rfl ?_)
   refine WL.dec (run_leq rfl rfl) rfl rfl (fun c11 => ?_) (fun c11 => ?_)
   ·
    refine WL.val (run_pickT rfl) rfl rfl (WL.val run_move rfl rfl (WL.val run_move rfl rfl ?_))
    refine WL.dec (run_geq rfl rfl) rfl rfl (fun c15 => ?_) (fun c15 => ?_)
    ·
     refine WL.val (run_pickT rfl) rfl rfl (WL.val run_move rfl rfl (WL.val run_move rfl rfl (WL.val run_move rfl rfl (WL.val (run_nilCheck rfl) rfl rfl (WL.val (run_fieldAddr 0 Tryz.underlying110 rfl Tryz.sizeOf3 rfl rfl) rfl rfl (WL.val (run_load1 Tryz.isAgg3 rfl (h.cellB rfl)) rfl rfl ?_))))))
     refine WL.dec (run_leq rfl rfl) rfl rfl (fun c23 => ?_) (fun c23 => ?_)
     ·
      refine WL.val (run_pickT rfl) rfl rfl (WL.val run_move rfl rfl (WL.val run_move rfl rfl (WL.val run_move rfl rfl (WL.val (run_nilCheck rfl) rfl rfl (WL.val (run_fieldAddr 0 Tryz.underlying110 rfl Tryz.sizeOf3 rfl rfl) rfl rfl (WL.val (run_load1 Tryz.isAgg3 rfl (h.cellB rfl)) rfl rfl (WL.val run_move rfl rfl ?_)))))))
      refine WL.val (run_sub rfl rfl (by omega) (by omega)) rfl rfl ?_
      refine WL.dec (run_leq rfl rfl) rfl rfl (fun c33 => ?_) (fun c33 => ?_)
      ·
       refine WL.val (run_pickT rfl) rfl rfl (WL.val run_assign rfl rfl (WL.nil (W.ret (bodyQ.r1 (v := .bool _) Tryz.results115 rfl ?_))))
       exact ⟨.inl ⟨rfl, by omega, by omega, by omega, by omega, by omega⟩, h⟩
      refine WL.val (run_pickT rfl) rfl rfl (WL.val run_assign rfl rfl (WL.nil (W.ret (bodyQ.r1 (v := .bool _) Tryz.results115 rfl ?_))))
      exact ⟨.inr ⟨rfl, by omega⟩, h⟩
     refine WL.val (run_pickT rfl) rfl rfl (WL.val run_move rfl rfl (WL.skip rfl rfl (WL.skip rfl rfl (WL.skip rfl rfl (WL.skip rfl rfl (WL.skip rfl rfl (WL.skip rfl rfl ?_)))))))
     refine WL.skip rfl rfl (WL.skip rfl rfl (WL.val (run_pickF rfl) rfl rfl (WL.val run_assign rfl rfl (WL.nil (W.ret (bodyQ.r1 (v := .bool _) Tryz.results115 rfl ?_))))))
     exact ⟨.inr ⟨rfl, by omega⟩, h⟩
    refine WL.val (run_pickT rfl) rfl rfl (WL.val run_move rfl rfl (WL.skip rfl rfl (WL.skip rfl rfl (WL.skip rfl rfl (WL.skip rfl rfl (WL.skip rfl rfl (WL.skip rfl rfl ?_)))))))
    refine WL.val (run_pickF rfl) rfl rfl (WL.val run_move rfl rfl (WL.skip rfl rfl (WL.skip rfl rfl (WL.skip rfl rfl (WL.skip rfl rfl (WL.skip rfl rfl (WL.skip rfl rfl ?_)))))))
    refine WL.skip rfl rfl (WL.skip rfl rfl (WL.val (run_pickF rfl) rfl rfl (WL.val run_assign rfl rfl (WL.nil (W.ret (bodyQ.r1 (v := .bool _) Tryz.results115 rfl ?_))))))
    exact ⟨.inr ⟨rfl, by omega⟩, h⟩
   refine WL.val (run_pickT rfl) rfl rfl (WL.val run_move rfl rfl (WL.skip rfl rfl (WL.skip rfl rfl (WL.val (run_pickF rfl) rfl rfl (WL.val run_move rfl rfl (WL.skip rfl rfl (WL.skip rfl rfl ?_)))))))
   refine WL.skip rfl rfl (WL.skip rfl rfl (WL.skip rfl rfl (WL.skip rfl rfl (WL.val (run_pickF rfl) rfl rfl (WL.val run_move rfl rfl (WL.skip rfl rfl (WL.skip rfl rfl ?_)))))))
   refine WL.skip rfl rfl (WL.skip rfl rfl (WL.skip rfl rfl (WL.skip rfl rfl (WL.skip rfl rfl (WL.skip rfl rfl (WL.val (run_pickF rfl) rfl rfl (WL.val run_assign rfl rfl ?_)))))))
   refine WL.nil (W.ret (bodyQ.r1 (v := .bool _) Tryz.results115 rfl ?_))
   exact ⟨.inr ⟨rfl, by omega⟩, h⟩
  refine WL.val run_move rfl rfl (WL.skip rfl rfl (WL.skip rfl rfl (WL.val (run_pickF rfl) rfl rfl (WL.val run_move rfl rfl (WL.skip rfl rfl (WL.skip rfl rfl (WL.val (run_pickF rfl) rfl rfl ?_)))))))
  refine WL.val run_move rfl rfl (WL.skip rfl rfl (WL.skip rfl rfl (WL.skip rfl rfl (WL.skip rfl rfl (WL.skip rfl rfl (WL.skip rfl rfl (WL.val (run_pickF rfl) rfl rfl ?_)))))))
  refine WL.val run_move rfl rfl (WL.skip rfl rfl (WL.skip rfl rfl (WL.skip rfl rfl (WL.skip rfl rfl (WL.skip rfl rfl (WL.skip rfl rfl (WL.skip rfl rfl ?_)))))))
  refine WL.skip rfl rfl (WL.val (run_pickF rfl) rfl rfl (WL.val run_assign rfl rfl (WL.nil (W.ret (bodyQ.r1 (v := .bool _) Tryz.results115 rfl ?_)))))
  exact ⟨.inr ⟨rfl, by omega⟩, h⟩

theorem rread14_ok {b p q : Nat} {s : Sp} {pc : PoolK} (hpq : p + q ≤ s.N) (hq : q ≤ 32) (h : On W0 (RSpP 110 b pc s :: PoolC pc :: L) w) : Calls Tryz.prog 116 #[.pointer (some ⟨b, 0, none⟩), .int .i64 (p : Int), .int .i64 (q : Int)] w (Ret fun v w' => ∃ a c, v = .tuple #[.slice a (partS s p q).length c, .int .i64 0] ∧ On W0 (OwnB (.slice a (partS s p q).length c) (partS s p q) :: RSpP 110 b pc s :: PoolC pc :: L) w') := by
  refine enter Tryz.func116 rfl Tryz.ntmps116 rfl ?_
  have hmx := maxLen_eq
  have ho := openR h
  obtain ⟨bv, mv, m, hpk, h⟩ := ho
  have hpk2 := hpk
  obtain ⟨hwf, hbv, hmv, hml⟩ := hpk2
  have hwf2 := hwf
  obtain ⟨hw1, hw2, hw3, hw4⟩ := hwf2
  have CB : Gives (PoolC pc :: L) (Bytes bv s.d) := Gives.poolC hbv
  have CM : Gives (PoolC pc :: L) (Bytes mv m) := Gives.poolC hmv
  have fB := (h.readsTo CB).form
  obtain ⟨ab, cb, hb1, hb2, hb3, _⟩ := fB
  have fM := (h.readsTo CM).form
  obtain ⟨am, cm, hm1, hm2, hm3, _⟩ := fM
  subst hb1
  subst hm1
  refine W.seq (W.region (WL.val run_assign rfl rfl (WL.val run_assign rfl rfl (WL.nil (W.seq (W.seq (W.region ?_)))))))
  refine WL.val run_move rfl rfl (WL.val run_move rfl rfl (WL.val run_move rfl rfl (WL.eff (eff_call Tryz.call115 (rin14_ok (N := s.N) (at_ := p) (n := q) hw3 h)) rfl rfl ?_)))
  rintro _ w ⟨hv, h⟩
  rcases hv with ⟨hv, _⟩ | ⟨_, hno⟩
  rotate_left
  · exact absurd (show _ by omega) hno
  subst hv
  refine WL.val (run_not rfl) rfl rfl (WL.nil (W.condF rfl (W.skip (W.seq ?_))))
  have hcut := cut_bytes (l := p * 8) (h := (p + q) * 8) CB hb2 (by omega) (by omega)
  obtain ⟨a', c', hcut, gC⟩ := hcut
  have epq : (s.d.drop (p * 8)).take ((p + q) * 8 - p * 8) = partS s p q := by unfold partS; rw [Nat.mul_comm p 8, show (p + q) * 8 - 8 * p = 8 * q by omega]
  rw [epq] at hcut gC
  have hpl : (partS s p q).length = 8 * q := by unfold partS; rw [List.length_take, List.length_drop]; omega
  refine W.region (WL.eff (eff_mkSlice (zl := []) (out := []) h Tryz.underlying22 Tryz.sizeOf5 Tryz.zeroValue5 (by decide) (by simp) rfl rfl (by simp) (trivial) rfl rfl (by simp [maxLen])) rfl rfl ?_)
  rintro _ w ⟨b13, rfl, h⟩
  refine WL.val run_move rfl rfl (WL.val (run_nilCheck rfl) rfl rfl (WL.val (run_fieldAddr 1 Tryz.underlying110 rfl Tryz.sizeOf22 rfl rfl) rfl rfl (WL.val (run_load1 Tryz.isAgg22 rfl (h.cellB rfl)) rfl rfl (WL.val run_move rfl rfl (WL.val (run_mulN (m := p) (n := 8) rfl rfl (by omega)) rfl rfl (WL.val run_move rfl rfl (WL.val run_move rfl rfl ?_)))))))
  refine WL.val (run_addN (m := p) (n := q) rfl rfl (by omega)) rfl rfl (WL.val (run_mulN (m := p + q) (n := 8) rfl rfl (by omega)) rfl rfl (WL.val (run_cutLHV (l := p * 8) (h := (p + q) * 8) Tryz.underlying22 Tryz.sizeOf5 rfl rfl rfl (by omega) (by omega) hcut) rfl rfl (WL.eff (eff_app0 (bytes := 1) h rfl rfl (h.readsTo (gC)) Tryz.underlying22 rfl rfl rfl rfl rfl (by omega) (by omega) bytes_one) rfl rfl ?_)))
  rintro _ w ⟨a25, c25, rfl, h⟩
  refine WL.val run_assign rfl rfl (WL.val run_assign rfl rfl (WL.nil (W.ret (bodyQ.r2 (v1 := .slice _ _ _) (v2 := .int .i64 _) Tryz.results116 rfl rfl ?_))))
  exact ⟨a25, c25, rfl, (closeR (b := b) (s := s) hpk (h.fetch (blk b [.int .i64 (s.N : Int), .slice ab s.d.length cb, .slice am m.length cm] 110))).to⟩

theorem rwrite14_ok {b p : Nat} {s : Sp} {pc : PoolK} {ax : Option Addr} {cx : Nat} {bs : List UInt8} (h8 : bs.length % 8 = 0) (hpq : p + bs.length / 8 ≤ s.N) (hq : bs.length / 8 ≤ 32) (h : On W0 (RSpP 110 b pc s :: PoolC pc :: L) w) (C : Gives L (Bytes (.slice ax bs.length cx) bs)) : Calls Tryz.prog 117 #[.pointer (some ⟨b, 0, none⟩), .int .i64 (p : Int), .slice ax bs.length cx] w (Ret fun v w' => ∃ pc', subK pc pc' ∧ v = .int .i64 0 ∧ On W0 (RSpP 110 b pc' (writeS s p bs) :: PoolC pc' :: L) w') := by
  refine enter Tryz.func117 rfl Tryz.ntmps117 rfl ?_
  have hmx := maxLen_eq
  have ho := openR h
  obtain ⟨bv, mv, m, hpk, h⟩ := ho
  have hpk2 := hpk
  obtain ⟨hwf, hbv, hmv, hml⟩ := hpk2
  have hwf2 := hwf
  obtain ⟨hw1, hw2, hw3, hw4⟩ := hwf2
  have CB : Gives (PoolC pc :: L) (Bytes bv s.d) := Gives.poolC hbv
  have CM : Gives (PoolC pc :: L) (Bytes mv m) := Gives.poolC hmv
  have fB := (h.readsTo CB).form
  obtain ⟨ab, cb, hb1, hb2, hb3, _⟩ := fB
  have fM := (h.readsTo CM).form
  obtain ⟨am, cm, hm1, hm2, hm3, _⟩ := fM
  subst hb1
  subst hm1
  have hbb := Cells.bounds (h.readsTo C)
  obtain ⟨hbc, hbm⟩ := hbb
  refine W.seq (W.region (WL.val run_assign rfl rfl (WL.nil (W.seq (W.region (WL.val run_move rfl rfl (WL.val (run_lenSlice Tryz.underlying22 rfl) rfl rfl ?_)))))))
  refine WL.val (run_quoN (m := bs.length) (n := 8) rfl rfl (by omega) (by omega)) rfl rfl (WL.val run_assign rfl rfl (WL.nil (W.seq (W.seq (W.region (WL.val run_move rfl rfl (WL.val (run_lenSlice Tryz.underlying22 rfl) rfl rfl ?_)))))))
  refine WL.val (run_remN (m := bs.length) (n := 8) rfl rfl (by omega)) rfl rfl (WL.val (run_neqF rfl rfl (by omega)) rfl rfl (WL.val run_move rfl rfl (WL.val run_move rfl rfl (WL.val run_move rfl rfl (WL.val run_move rfl rfl (WL.eff (eff_call Tryz.call115 (rin14_ok (N := s.N) (at_ := p) (n := ((bs.length / 8 : Nat) : Int)) hw3 h)) rfl rfl ?_))))))
  rintro _ w ⟨hv, h⟩
  rcases hv with ⟨hv, _⟩ | ⟨_, hno⟩
  rotate_left
  · exact absurd (show _ by omega) hno
  subst hv
  refine WL.val (run_not rfl) rfl rfl (WL.val (run_pickF rfl) rfl rfl (WL.nil (W.condF rfl (W.skip (W.seq (W.region (WL.eff (eff_mkSlice (zl := []) (out := []) h Tryz.underlying22 Tryz.sizeOf5 Tryz.zeroValue5 (by decide) (by simp) rfl rfl (by simp) (trivial) rfl rfl (by simp [maxLen])) rfl rfl ?_)))))))
  rintro _ w ⟨b24, rfl, h⟩
  refine WL.val run_move rfl rfl (WL.val (run_nilCheck rfl) rfl rfl (WL.val (run_fieldAddr 1 Tryz.underlying110 rfl Tryz.sizeOf22 rfl rfl) rfl rfl (WL.val (run_load1 Tryz.isAgg22 rfl (h.cellB rfl)) rfl rfl (WL.eff (eff_app0 (bytes := 1) h rfl rfl (h.readsTo (CB)) Tryz.underlying22 rfl rfl rfl rfl rfl (by omega) (by omega) bytes_one) rfl rfl ?_))))
  rintro _ w ⟨ax0, cx0, rfl, h⟩
  refine WL.val run_assign rfl rfl (WL.nil (W.seq (W.seq (W.region (WL.val run_assign rfl rfl (WL.nil (W.block ?_)))))))
  refine W.loop (fun (k : Nat) env w => k ≤ bs.length ∧ ∃ j, env = mkE j [(0, .pointer (some ⟨b, 0, none⟩)), (1, .int .i64 (p : Int)), (2, .slice ax bs.length cx), (7, .int .i64 ((bs.length / 8 : Nat) : Int)), (8, .slice ax0 s.d.length cx0), (9, .int .i64 (k : Int))] ∧ On W0 (Own 1 (.slice ax0 s.d.length cx0) s.d.length (bytesV (over s.d (8 * p) (bs.take k))) :: blk b [.int .i64 (s.N : Int), .slice ab s.d.length cb, .slice am m.length cm] 110 :: PoolC pc :: L) w) (fun k => bs.length - k) (0) ?_ ?_
  · have e0 : over s.d (8 * p) (bs.take 0) = s.d := by rw [List.take_zero, over_nil]
    exact ⟨Nat.zero_le _, _, mkE_of ⟨rfl, rfl, rfl, rfl, rfl, rfl, trivial⟩, by rw [e0]; exact h.to⟩
  rintro k env w ⟨hk, j, rfl, h⟩
  refine W.seq (W.seq (W.region (WL.val run_move rfl rfl (WL.val run_move rfl rfl (WL.val (run_lenSlice Tryz.underlying22 rfl) rfl rfl (WL.val (run_lss rfl rfl) rfl rfl (WL.nil ?_)))))))
  refine W.condIf rfl (fun c12 => ?_) (fun c12 => ?_)
  ·
   refine W.skip (W.seq ?_)
   have hkl : k < bs.length := by omega
   have hx : ∃ x, bs[k]? = some x := ⟨bs[k]'(by omega), by simp⟩
   obtain ⟨x, hx⟩ := hx
   have CC := h.readsTo C
   have ha := CC.addr (by omega)
   obtain ⟨bx, ox, hax⟩ := ha
   subst hax
   have ha := Own.addr h (by omega)
   obtain ⟨bq, oq, hal⟩ := ha
   subst hal
   refine W.block (W.region (WL.val run_move rfl rfl (WL.val run_move rfl rfl (WL.val (run_mulN (m := p) (n := 8) rfl rfl (by omega)) rfl rfl (WL.val run_move rfl rfl (WL.val (run_addN (m := p * 8) (n := k) rfl rfl (by omega)) rfl rfl (WL.val run_move rfl rfl ?_)))))))
   refine WL.val run_move rfl rfl (WL.val (run_indexAddr Tryz.underlying22 Tryz.sizeOf5 rfl rfl (by omega) (by omega)) rfl rfl (WL.val (run_load1 Tryz.isAgg5 rfl ((h.readsTo C).elem (i := k) (vs := [.int .u8 x.toNat]) (by omega) (bytes_row hx) 0 _ rfl)) rfl rfl (WL.val (run_indexAddr Tryz.underlying22 Tryz.sizeOf5 rfl rfl (by omega) (by omega)) rfl rfl (WL.eff (eff_storeOwn (k := (p * 8 + k) * 1) (v := .int .u8 (x.toNat : Int)) h Tryz.sizeOf5 rfl rfl rfl (by omega)) rfl rfl ?_))))
   rintro _ w h
   rw [Nat.mul_one, bytesV_set, Nat.mul_comm p 8, over_step hx (by omega)] at h
   refine WL.nil (W.region (WL.val run_move rfl rfl (WL.val (run_incN rfl rfl (by omega)) rfl rfl (WL.val run_assign rfl rfl (WL.nil ?_)))))
   exact ⟨k + 1, ⟨by omega, _, mkE_of ⟨rfl, rfl, rfl, rfl, rfl, rfl, trivial⟩, h.to⟩, by show bs.length - (k + 1) < bs.length - k; omega⟩
  refine W.exit (W.seq ?_)
  have hke : k = bs.length := by omega
  have eall : over s.d (8 * p) (bs.take k) = (writeS s p bs).d := by rw [hke, List.take_length]; rfl
  rw [eall] at h
  have hdd : (writeS s p bs).d.length = s.d.length := over_length (by omega)
  refine W.region (WL.val run_move rfl rfl (WL.val run_move rfl rfl (WL.val (run_nilCheck rfl) rfl rfl (WL.val (run_fieldAddr 1 Tryz.underlying110 rfl Tryz.sizeOf22 rfl rfl) rfl rfl (WL.eff (eff_store (v := .slice ax0 s.d.length cx0) (h.fetch (blk b [.int .i64 (s.N : Int), .slice ab s.d.length cb, .slice am m.length cm] 110)) Tryz.sizeOf22 rfl rfl rfl rfl rfl) rfl rfl ?_)))))
  rintro _ w h
  have h : On W0 (blk b [.int .i64 (s.N : Int), .slice ax0 s.d.length cx0, .slice am m.length cm] 110 :: _) w := h
  refine WL.nil (W.seq (W.region (WL.val run_move rfl rfl (WL.val run_move rfl rfl (WL.val (run_nilCheck rfl) rfl rfl (WL.val (run_fieldAddr 2 Tryz.underlying110 rfl Tryz.sizeOf22 rfl rfl) rfl rfl (WL.val (run_load1 Tryz.isAgg22 rfl (h.cellB rfl)) rfl rfl ?_)))))))
  refine WL.val run_move rfl rfl (WL.val run_move rfl rfl (WL.eff (eff_call Tryz.call149 (rput13_ok (bs := m) (p := p) (q := bs.length / 8) (s := true) h (Gives.to CM) (by omega) (by omega) (by omega))) rfl rfl ?_))
  rintro _ w ⟨a58, c58, z58, mm, hmm, rfl, h⟩
  refine WL.val run_move rfl rfl (WL.val (run_extract rfl rfl) rfl rfl (WL.val (run_extract rfl rfl) rfl rfl (WL.val (run_nilCheck rfl) rfl rfl (WL.val (run_fieldAddr 2 Tryz.underlying110 rfl Tryz.sizeOf22 rfl rfl) rfl rfl (WL.eff (eff_store (v := .slice a58 mm.length c58) (h.fetch (blk b [.int .i64 (s.N : Int), .slice ax0 s.d.length cx0, .slice am m.length cm] 110)) Tryz.sizeOf22 rfl rfl rfl rfl rfl) rfl rfl ?_)))))
  rintro _ w h
  have h : On W0 (blk b [.int .i64 (s.N : Int), .slice ax0 s.d.length cx0, .slice a58 mm.length c58] 110 :: _) w := h
  refine WL.nil (W.seq (W.region (WL.val run_assign rfl rfl (WL.nil (W.ret (bodyQ.r1 (v := .int .i64 _) Tryz.results117 rfl ?_))))))
  have hx := closeR2 (L := L) (T := 110) (s := (writeS s p bs)) (b := b) (pc := pc) (v1 := .slice ax0 s.d.length cx0) (v2 := .slice a58 mm.length c58) (mm := mm) (N := s.N) (xs := bytesV (writeS s p bs).d) (writeS_wf hwf (by omega)) rfl rfl hdd (by omega) h.to
  obtain ⟨pc2, hs2, h⟩ := hx
  exact ⟨pc2, hs2, rfl, h⟩

theorem runmap14_ok {b p q : Nat} {s : Sp} {pc : PoolK} (hpq : p + q ≤ s.N) (hq : q ≤ 32) (h : On W0 (RSpP 110 b pc s :: PoolC pc :: L) w) : Calls Tryz.prog 118 #[.pointer (some ⟨b, 0, none⟩), .int .i64 (p : Int), .int .i64 (q : Int)] w (Ret fun v w' => ∃ pc', subK pc pc' ∧ v = .int .i64 0 ∧ On W0 (RSpP 110 b pc' (unmapS s p q) :: PoolC pc' :: L) w') := by
  refine enter Tryz.func118 rfl Tryz.ntmps118 rfl ?_
  have hmx := maxLen_eq
  have ho := openR h
  obtain ⟨bv, mv, m, hpk, h⟩ := ho
  have hpk2 := hpk
  obtain ⟨hwf, hbv, hmv, hml⟩ := hpk2
  have hwf2 := hwf
  obtain ⟨hw1, hw2, hw3, hw4⟩ := hwf2
  have CB : Gives (PoolC pc :: L) (Bytes bv s.d) := Gives.poolC hbv
  have CM : Gives (PoolC pc :: L) (Bytes mv m) := Gives.poolC hmv
  have fB := (h.readsTo CB).form
  obtain ⟨ab, cb, hb1, hb2, hb3, _⟩ := fB
  have fM := (h.readsTo CM).form
  obtain ⟨am, cm, hm1, hm2, hm3, _⟩ := fM
  subst hb1
  subst hm1
  refine W.seq (W.region (WL.val run_assign rfl rfl (WL.nil (W.seq (W.seq (W.region (WL.val run_move rfl rfl ?_)))))))
  refine WL.val run_move rfl rfl (WL.val run_move rfl rfl (WL.eff (eff_call Tryz.call115 (rin14_ok (N := s.N) (at_ := p) (n := q) hw3 h)) rfl rfl ?_))
  rintro _ w ⟨hv, h⟩
  rcases hv with ⟨hv, _⟩ | ⟨_, hno⟩
  rotate_left
  · exact absurd (show _ by omega) hno
  subst hv
  refine WL.val (run_not rfl) rfl rfl (WL.nil (W.condF rfl (W.skip (W.seq (W.region (WL.eff (eff_mkSlice (zl := []) (out := []) h Tryz.underlying22 Tryz.sizeOf5 Tryz.zeroValue5 (by decide) (by simp) rfl rfl (by simp) (trivial) rfl rfl (by simp [maxLen])) rfl rfl ?_))))))
  rintro _ w ⟨b14, rfl, h⟩
  refine WL.val run_move rfl rfl (WL.val (run_nilCheck rfl) rfl rfl (WL.val (run_fieldAddr 1 Tryz.underlying110 rfl Tryz.sizeOf22 rfl rfl) rfl rfl (WL.val (run_load1 Tryz.isAgg22 rfl (h.cellB rfl)) rfl rfl (WL.eff (eff_app0 (bytes := 1) h rfl rfl (h.readsTo (CB)) Tryz.underlying22 rfl rfl rfl rfl rfl (by omega) (by omega) bytes_one) rfl rfl ?_))))
  rintro _ w ⟨ax0, cx0, rfl, h⟩
  refine WL.val run_assign rfl rfl (WL.nil (W.seq (W.seq (W.region (WL.val run_move rfl rfl (WL.val (run_mulN (m := p) (n := 8) rfl rfl (by omega)) rfl rfl (WL.val run_assign rfl rfl ?_)))))))
  refine WL.nil (W.block ?_)
  refine W.loop (fun (k : Nat) env w => k ≤ 8 * q ∧ ∃ j, env = mkE j [(0, .pointer (some ⟨b, 0, none⟩)), (1, .int .i64 (p : Int)), (2, .int .i64 (q : Int)), (7, .slice ax0 s.d.length cx0), (8, .int .i64 ((p * 8 + k : Nat) : Int))] ∧ On W0 (Own 1 (.slice ax0 s.d.length cx0) s.d.length (bytesV (over s.d (8 * p) ((List.replicate (8 * q) (0 : UInt8)).take k))) :: blk b [.int .i64 (s.N : Int), .slice ab s.d.length cb, .slice am m.length cm] 110 :: PoolC pc :: L) w) (fun k => 8 * q - k) (0) ?_ ?_
  · have e0 : over s.d (8 * p) ((List.replicate (8 * q) (0 : UInt8)).take 0) = s.d := by rw [List.take_zero, over_nil]
    exact ⟨Nat.zero_le _, _, mkE_of ⟨rfl, rfl, rfl, rfl, rfl, trivial⟩, by rw [e0]; exact h.to⟩
  rintro k env w ⟨hk, j, rfl, h⟩
  refine W.seq (W.seq (W.region (WL.val run_move rfl rfl (WL.val run_move rfl rfl (WL.val run_move rfl rfl (WL.val (run_addN (m := p) (n := q) rfl rfl (by omega)) rfl rfl (WL.val (run_mulN (m := p + q) (n := 8) rfl rfl (by omega)) rfl rfl ?_)))))))
  refine WL.val (run_lss rfl rfl) rfl rfl (WL.nil ?_)
  refine W.condIf rfl (fun c11 => ?_) (fun c11 => ?_)
  ·
   refine W.skip (W.seq ?_)
   have hkl : k < 8 * q := by omega
   have hx : (List.replicate (8 * q) (0 : UInt8))[k]? = some 0 := by rw [List.getElem?_replicate, if_pos hkl]
   have ha := Own.addr h (by omega)
   obtain ⟨bq, oq, hal⟩ := ha
   subst hal
   refine W.block (W.region (WL.val run_move rfl rfl (WL.val run_move rfl rfl (WL.val (run_indexAddr Tryz.underlying22 Tryz.sizeOf5 rfl rfl (by omega) (by omega)) rfl rfl (WL.eff (eff_storeOwn (k := (p * 8 + k) * 1) (v := .int .u8 (((0 : UInt8).toNat : Nat) : Int)) h Tryz.sizeOf5 rfl rfl rfl (by omega)) rfl rfl ?_)))))
   rintro _ w h
   rw [Nat.mul_one, bytesV_set, Nat.mul_comm p 8, over_step hx (by rw [List.length_replicate]; omega)] at h
   refine WL.nil (W.region (WL.val run_move rfl rfl (WL.val (run_incN rfl rfl (by omega)) rfl rfl (WL.val run_assign rfl rfl (WL.nil ?_)))))
   exact ⟨k + 1, ⟨by omega, _, mkE_of ⟨rfl, rfl, rfl, rfl, rfl, trivial⟩, h.to⟩, by show 8 * q - (k + 1) < 8 * q - k; omega⟩
  refine W.exit (W.seq ?_)
  have hke : k = 8 * q := by omega
  have eall : over s.d (8 * p) ((List.replicate (8 * q) (0 : UInt8)).take k) = (unmapS s p q).d := by rw [List.take_of_length_le (by rw [List.length_replicate]; omega)]; rfl
  rw [eall] at h
  have hdd : (unmapS s p q).d.length = s.d.length := over_length (by rw [List.length_replicate]; omega)
  refine W.region (WL.val run_move rfl rfl (WL.val run_move rfl rfl (WL.val (run_nilCheck rfl) rfl rfl (WL.val (run_fieldAddr 1 Tryz.underlying110 rfl Tryz.sizeOf22 rfl rfl) rfl rfl (WL.eff (eff_store (v := .slice ax0 s.d.length cx0) (h.fetch (blk b [.int .i64 (s.N : Int), .slice ab s.d.length cb, .slice am m.length cm] 110)) Tryz.sizeOf22 rfl rfl rfl rfl rfl) rfl rfl ?_)))))
  rintro _ w h
  have h : On W0 (blk b [.int .i64 (s.N : Int), .slice ax0 s.d.length cx0, .slice am m.length cm] 110 :: _) w := h
  refine WL.nil (W.seq (W.region (WL.val run_move rfl rfl (WL.val run_move rfl rfl (WL.val (run_nilCheck rfl) rfl rfl (WL.val (run_fieldAddr 2 Tryz.underlying110 rfl Tryz.sizeOf22 rfl rfl) rfl rfl (WL.val (run_load1 Tryz.isAgg22 rfl (h.cellB rfl)) rfl rfl ?_)))))))
  refine WL.val run_move rfl rfl (WL.val run_move rfl rfl (WL.eff (eff_call Tryz.call149 (rput13_ok (bs := m) (p := p) (q := q) (s := false) h (Gives.to CM) (by omega) (by omega) (by omega))) rfl rfl ?_))
  rintro _ w ⟨a45, c45, z45, mm, hmm, rfl, h⟩
  refine WL.val run_move rfl rfl (WL.val (run_extract rfl rfl) rfl rfl (WL.val (run_extract rfl rfl) rfl rfl (WL.val (run_nilCheck rfl) rfl rfl (WL.val (run_fieldAddr 2 Tryz.underlying110 rfl Tryz.sizeOf22 rfl rfl) rfl rfl (WL.eff (eff_store (v := .slice a45 mm.length c45) (h.fetch (blk b [.int .i64 (s.N : Int), .slice ax0 s.d.length cx0, .slice am m.length cm] 110)) Tryz.sizeOf22 rfl rfl rfl rfl rfl) rfl rfl ?_)))))
  rintro _ w h
  have h : On W0 (blk b [.int .i64 (s.N : Int), .slice ax0 s.d.length cx0, .slice a45 mm.length c45] 110 :: _) w := h
  refine WL.nil (W.seq (W.region (WL.val run_assign rfl rfl (WL.nil (W.ret (bodyQ.r1 (v := .int .i64 _) Tryz.results118 rfl ?_))))))
  have hx := closeR2 (L := L) (T := 110) (s := (unmapS s p q)) (b := b) (pc := pc) (v1 := .slice ax0 s.d.length cx0) (v2 := .slice a45 mm.length c45) (mm := mm) (N := s.N) (xs := bytesV (unmapS s p q).d) (unmapS_wf hwf (by omega)) rfl rfl hdd (by omega) h.to
  obtain ⟨pc2, hs2, h⟩ := hx
  exact ⟨pc2, hs2, rfl, h⟩

theorem rcompare14_ok {b p q : Nat} {s : Sp} {pc : PoolK} {ax : Option Addr} {cx : Nat} {bs : List UInt8} (hlq : bs.length = 16 * q) (hpq : p + q ≤ s.N) (hq : q ≤ 32) (h : On W0 (RSpP 110 b pc s :: PoolC pc :: L) w) (C : Gives L (Bytes (.slice ax bs.length cx) bs)) : Calls Tryz.prog 119 #[.pointer (some ⟨b, 0, none⟩), .int .i64 (p : Int), .slice ax bs.length cx] w (Ret fun v w' => (∃ pc', subK pc pc' ∧ partS s p q = bs.take (8 * q) ∧ v = .tuple #[.int .i64 (-1), .int .i64 0] ∧ On W0 (RSpP 110 b pc' (writeS s p (bs.drop (8 * q))) :: PoolC pc' :: L) w') ∨ (∃ i : Nat, i < 8 * q ∧ (partS s p q)[i]? ≠ bs[i]? ∧ (∀ j, j < i → (partS s p q)[j]? = bs[j]?) ∧ v = .tuple #[.int .i64 (i : Int), .int .i64 0] ∧ On W0 (RSpP 110 b pc s :: PoolC pc :: L) w')) := by
  refine enter Tryz.func119 rfl Tryz.ntmps119 rfl ?_
  have hmx := maxLen_eq
  have ho := openR h
  obtain ⟨bv, mv, m, hpk, h⟩ := ho
  have hpk2 := hpk
  obtain ⟨hwf, hbv, hmv, hml⟩ := hpk2
  have hwf2 := hwf
  obtain ⟨hw1, hw2, hw3, hw4⟩ := hwf2
  have CB : Gives (PoolC pc :: L) (Bytes bv s.d) := Gives.poolC hbv
  have CM : Gives (PoolC pc :: L) (Bytes mv m) := Gives.poolC hmv
  have fB := (h.readsTo CB).form
  obtain ⟨ab, cb, hb1, hb2, hb3, _⟩ := fB
  have fM := (h.readsTo CM).form
  obtain ⟨am, cm, hm1, hm2, hm3, _⟩ := fM
  subst hb1
  subst hm1
  have hbb := Cells.bounds (h.readsTo C)
  obtain ⟨hbc, hbm⟩ := hbb
  have hq2 : bs.length / 8 / 2 = q := by omega
  have hpl : (partS s p q).length = 8 * q := by unfold partS; rw [List.length_take, List.length_drop]; omega
  refine W.seq (W.region (WL.val run_assign rfl rfl (WL.val run_assign rfl rfl (WL.nil (W.seq (W.region (WL.val run_move rfl rfl ?_)))))))
  refine WL.val (run_lenSlice Tryz.underlying22 rfl) rfl rfl (WL.val (run_quoN (m := bs.length) (n := 8) rfl rfl (by omega) (by omega)) rfl rfl (WL.val (run_quoN (m := bs.length / 8) (n := 2) rfl rfl (by omega) (by omega)) rfl rfl (WL.val run_assign rfl rfl (WL.nil (W.seq (W.seq (W.region ?_)))))))
  refine WL.val run_move rfl rfl (WL.val (run_lenSlice Tryz.underlying22 rfl) rfl rfl (WL.val (run_remN (m := bs.length) (n := 16) rfl rfl (by omega)) rfl rfl (WL.val (run_neqF rfl rfl (by omega)) rfl rfl (WL.val run_move rfl rfl (WL.val run_move rfl rfl (WL.val run_move rfl rfl (WL.val run_move rfl rfl ?_)))))))
  refine WL.eff (eff_call Tryz.call115 (rin14_ok (N := s.N) (at_ := p) (n := ((bs.length / 8 / 2 : Nat) : Int)) hw3 h)) rfl rfl ?_
  rintro _ w ⟨hv, h⟩
  rcases hv with ⟨hv, _⟩ | ⟨_, hno⟩
  rotate_left
  · exact absurd (show _ by omega) hno
  subst hv
  refine WL.val (run_not rfl) rfl rfl (WL.val (run_pickF rfl) rfl rfl (WL.nil (W.condF rfl (W.skip (W.seq (W.seq (W.region ?_)))))))
  refine WL.val run_assign rfl rfl (WL.nil (W.block ?_))
  refine W.loop (fun (k : Nat) env w => k ≤ 8 * q ∧ ∃ j, env = mkE j [(0, .pointer (some ⟨b, 0, none⟩)), (1, .int .i64 (p : Int)), (2, .slice ax bs.length cx), (8, .int .i64 (q : Int)), (9, .int .i64 (k : Int))] ∧ (∀ j, j < k → (partS s p q)[j]? = bs[j]?) ∧ On W0 (blk b [.int .i64 (s.N : Int), .slice ab s.d.length cb, .slice am m.length cm] 110 :: PoolC pc :: L) w) (fun k => 8 * q - k) (0) ?_ ?_
  · exact ⟨Nat.zero_le _, _, mkE_of ⟨rfl, rfl, rfl, (by show Value.int .i64 ((bs.length / 8 / 2 : Nat) : Int) = _; rw [hq2]), rfl, trivial⟩, (fun j hj => by omega), h⟩
  rintro k env w ⟨hk, j, rfl, hsame, h⟩
  refine W.seq (W.seq (W.region (WL.val run_move rfl rfl (WL.val run_move rfl rfl (WL.val (run_mulN (m := q) (n := 8) rfl rfl (by omega)) rfl rfl (WL.val (run_lss rfl rfl) rfl rfl (WL.nil ?_)))))))
  refine W.condIf rfl (fun c11 => ?_) (fun c11 => ?_)
  ·
   refine W.skip (W.seq ?_)
   have hkl : k < 8 * q := by omega
   have hx : ∃ x, (partS s p q)[k]? = some x := ⟨(partS s p q)[k]'(by omega), by simp⟩
   obtain ⟨x, hx⟩ := hx
   have hx2 : s.d[p * 8 + k]? = some x := by
     have hx3 := hx
     unfold partS at hx3
     rw [List.getElem?_take, if_pos hkl, List.getElem?_drop, Nat.mul_comm 8 p] at hx3
     exact hx3
   have hy : ∃ y, bs[k]? = some y := ⟨bs[k]'(by omega), by simp⟩
   obtain ⟨y, hy⟩ := hy
   have CC := h.readsTo C
   have ha := CC.addr (by omega)
   obtain ⟨bx, ox, hax⟩ := ha
   subst hax
   have CC := h.readsTo CB
   have ha := CC.addr (by omega)
   obtain ⟨bq, oq, hal⟩ := ha
   subst hal
   refine W.block (W.seq ?_)
   refine W.draw Tryz.follows h (fun w h => ?_)
   refine WT.pure 0 rfl (by kernel_rfl) (fun w' => run_move) rfl rfl (WT.pure 1 rfl (by kernel_rfl) (fun w' => (run_nilCheck rfl)) rfl rfl (WT.pure 2 rfl (by kernel_rfl) (fun w' => (run_fieldAddr 1 Tryz.underlying110 rfl Tryz.sizeOf22 rfl rfl)) rfl rfl (WT.load1 3 rfl (by kernel_rfl) Tryz.isAgg22 rfl (h.cellB rfl) rfl rfl (WT.pure 4 rfl (by kernel_rfl) (fun w' => run_move) rfl rfl (WT.pure 5 rfl (by kernel_rfl) (fun w' => (run_mulN (m := p) (n := 8) rfl rfl (by omega))) rfl rfl (WT.pure 6 rfl (by kernel_rfl) (fun w' => run_move) rfl rfl (WT.pure 7 rfl (by kernel_rfl) (fun w' => (run_addN (m := p * 8) (n := k) rfl rfl (by omega))) rfl rfl ?_)))))))
   refine WT.pure 8 rfl (by kernel_rfl) (fun w' => (run_indexAddr Tryz.underlying22 Tryz.sizeOf5 rfl rfl (by omega) (by omega))) rfl rfl (WT.load1 9 rfl (by kernel_rfl) Tryz.isAgg5 rfl ((h.readsTo CB).elem (i := p * 8 + k) (vs := [.int .u8 x.toNat]) (by omega) (bytes_row hx2) 0 _ rfl) rfl rfl (WT.pure 10 rfl (by kernel_rfl) (fun w' => run_move) rfl rfl (WT.pure 11 rfl (by kernel_rfl) (fun w' => run_move) rfl rfl (WT.pure 12 rfl (by kernel_rfl) (fun w' => (run_indexAddr Tryz.underlying22 Tryz.sizeOf5 rfl rfl (by omega) (by omega))) rfl rfl (WT.load1 13 rfl (by kernel_rfl) Tryz.isAgg5 rfl ((h.readsTo C).elem (i := k) (vs := [.int .u8 y.toNat]) (by omega) (bytes_row hy) 0 _ rfl) rfl rfl (WT.pure 14 rfl (by kernel_rfl) (fun w' => (run_neq rfl rfl)) rfl rfl (WT.done (by kernel_rfl) ?_)))))))
   refine W.condIf rfl (fun c16 => ?_) (fun c16 => ?_)
   ·
    refine W.seq (W.region (WL.val run_move rfl rfl (WL.val run_assign rfl rfl (WL.val run_assign rfl rfl (WL.nil (W.ret (bodyQ.r2 (v1 := .int .i64 _) (v2 := .int .i64 _) Tryz.results119 rfl rfl ?_)))))))
    refine .inr ⟨k, hkl, ?_, hsame, rfl, (closeR (b := b) (s := s) hpk (h.fetch (blk b [.int .i64 (s.N : Int), .slice (some ⟨bq, oq, none⟩) s.d.length cb, .slice am m.length cm] 110))).to⟩
    rw [hx, hy]
    intro hh
    simp only [Option.some.injEq] at hh
    subst hh
    exact c16 rfl
   refine W.skip (W.region (WL.val run_move rfl rfl (WL.val (run_incN rfl rfl (by omega)) rfl rfl (WL.val run_assign rfl rfl (WL.nil ?_)))))
   exact ⟨k + 1, ⟨by omega, _, mkE_of ⟨rfl, rfl, rfl, rfl, rfl, trivial⟩, (fun j hj => by
     by_cases hjk : j = k
     · subst hjk; rw [hx, hy]; congr 1; exact UInt8.toNat_inj.1 (by omega)
     · exact hsame j (by omega)), h⟩, by show 8 * q - (k + 1) < 8 * q - k; omega⟩
  refine W.exit (W.seq ?_)
  have hke : k = 8 * q := by omega
  have hall : partS s p q = bs.take (8 * q) := by
    have := prefix_eq (k := 8 * q) (xs := partS s p q) (ys := bs) (fun j hj => hsame j (by omega)) (by omega)
    exact this
  have hcg := cut_gives (k := q * 8) C (by omega) hbc
  obtain ⟨a', c', hcut, CC⟩ := hcg
  rw [Nat.mul_comm q 8] at CC
  rw [show (bs.drop (q * 8)).length = (bs.drop (8 * q)).length by rw [Nat.mul_comm]] at hcut
  have hdl : (bs.drop (8 * q)).length = 8 * q := by rw [List.length_drop]; omega
  refine W.region (WL.val run_move rfl rfl (WL.val run_move rfl rfl (WL.val run_move rfl rfl (WL.val run_move rfl rfl (WL.val (run_mulN (m := q) (n := 8) rfl rfl (by omega)) rfl rfl (WL.val (run_cutLV Tryz.underlying22 Tryz.sizeOf5 rfl rfl (by omega) hcut) rfl rfl (WL.eff (eff_call Tryz.call117 (rwrite14_ok (s := s) (p := p) (bs := bs.drop (8 * q)) (by omega) (by omega) (by omega) ((closeR (b := b) (s := s) hpk (h.fetch (blk b [.int .i64 (s.N : Int), .slice ab s.d.length cb, .slice am m.length cm] 110)))) CC)) rfl rfl ?_)))))))
  rintro _ w ⟨pc2, hs2, rfl, h⟩
  refine WL.nil (W.seq (W.region (WL.val run_assign rfl rfl (WL.val run_assign rfl rfl (WL.nil (W.ret (bodyQ.r2 (v1 := .int .i64 _) (v2 := .int .i64 _) Tryz.results119 rfl rfl ?_)))))))
  exact .inl ⟨pc2, hs2, hall, rfl, h⟩

theorem rsnew_ok {n : Nat} {pc : PoolK} (hn1 : 1 ≤ n) (hn : n ≤ 1024) (h : On W0 (PoolC pc :: L) w) : Calls Tryz.prog 46 #[.int .i64 (n : Int)] w (Ret fun v w' => ∃ pc' b, subK pc pc' ∧ v = .tuple #[.pointer (some ⟨b, 0, none⟩), .int .i64 0] ∧ On W0 (RSpP 110 b pc' (newS n) :: PoolC pc' :: L) w') := by
  refine enter Tryz.func46 rfl Tryz.ntmps46 rfl ?_
  have hmx := maxLen_eq
  refine W.seq (W.region (WL.val run_assign rfl rfl (WL.val run_assign rfl rfl (WL.nil (W.seq (W.seq (W.region ?_)))))))
  refine WL.val run_move rfl rfl (WL.val (run_lssF rfl rfl (by omega)) rfl rfl (WL.val run_move rfl rfl (WL.val run_move rfl rfl (WL.val (run_gtrF rfl rfl (by omega)) rfl rfl (WL.val (run_pickF rfl) rfl rfl (WL.nil (W.condF rfl ?_)))))))
  refine W.skip (W.seq ?_)
  refine W.draw Tryz.follows h (fun w h => ?_)
  refine WT.pure 0 rfl (by kernel_rfl) (fun w' => run_move) rfl rfl (WT.pure 1 rfl (by kernel_rfl) (fun w' => run_move) rfl rfl (WT.pure 2 rfl (by kernel_rfl) (fun w' => (run_mulN (m := n) (n := 8) rfl rfl (by omega))) rfl rfl (WT.pure 4 rfl (by kernel_rfl) (fun w' => run_move) rfl rfl ?_)))
  -- SEVERAL MAY COME UP: [(3, 'make []uint8 t12 t12'), (5, ' gemel/gemelref13.New(t14)')]
  refine WT.two 3 5 (by kernel_rfl) ?_ ?_
  ·
   refine WT.opOf 3 [] rfl (by kernel_rfl) (eff_make (n := n * 8) (bytes := 1) h (by rfl) (by rfl) Tryz.underlying22 rfl rfl rfl rfl rfl (by omega) (by omega)) rfl rfl ?_
   rintro _ w ⟨b13, rfl, h⟩
   refine ⟨trivial, ?_⟩
   refine WT.eff 5 [] rfl (by kernel_rfl) (by kernel_rfl) (eff_call Tryz.call107 (rnew13_ok (n := n) (by omega) (by omega) h)) rfl rfl ?_
   rintro _ w ⟨a15, c15, rfl, h⟩
   refine ⟨trivial, ?_⟩
   refine WT.pure 6 rfl (by kernel_rfl) (fun w' => (run_buildS (pl := [(0, 1), (1, 1), (2, 1)]) (out := [.int .i64 _, .slice _ _ _, .slice _ _ _]) Tryz.underlying110 Tryz.zeroValue110 (fun w => by kernel_rfl) rfl (⟨⟨_, _, rfl, rfl, by decide⟩, ⟨⟨_, _, rfl, rfl, by decide⟩, ⟨⟨_, _, rfl, rfl, by decide⟩, trivial⟩⟩⟩) rfl)) rfl rfl (WT.eff 7 [] rfl (by kernel_rfl) (by kernel_rfl) (eff_box (v := .agg _) (l := [.int .i64 _, .slice _ _ _, .slice _ _ _]) h rfl rfl) rfl rfl ?_)
   rintro _ w ⟨b17, rfl, h⟩
   refine ⟨trivial, ?_⟩
   refine WT.pure 8 rfl (by kernel_rfl) (fun w' => run_assign) rfl rfl (WT.pure 9 rfl (by kernel_rfl) (fun w' => run_assign) rfl rfl (WT.done (by kernel_rfl) (W.ret (bodyQ.r2 (v1 := .pointer _) (v2 := .int .i64 _) Tryz.results46 rfl rfl ?_))))
   have eB : List.replicate (n * 8) (Value.int .u8 0) = bytesV (List.replicate (8 * n) 0) := by rw [Nat.mul_comm]; simp [bytesV, byteV]
   have lB : (List.replicate (8 * n) (0 : UInt8)).length = n * 8 := by rw [List.length_replicate, Nat.mul_comm]
   have hx := closeR2 (L := L) (T := 110) (s := newS n) (b := b17) (pc := pc) (v1 := .slice (some ⟨b13, 0, none⟩) (n * 8) (n * 8)) (v2 := .slice a15 (List.replicate ((n + 7) / 8) (0 : UInt8)).length c15) (mm := List.replicate ((n + 7) / 8) 0) (N := n) (xs := List.replicate (n * 8) (Value.int .u8 0)) (newS_wf hn1 hn) rfl eB lB (by rw [List.length_replicate]; omega) h.to
   obtain ⟨pc2, hs2, h⟩ := hx
   exact ⟨pc2, b17, hs2, rfl, h⟩
  refine WT.opOf 5 [] rfl (by kernel_rfl) (eff_call Tryz.call107 (rnew13_ok (n := n) (by omega) (by omega) h)) rfl rfl ?_
  rintro _ w ⟨a15, c15, rfl, h⟩
  refine ⟨trivial, ?_⟩
  refine WT.eff 3 [] rfl (by kernel_rfl) (by kernel_rfl) (eff_make (n := n * 8) (bytes := 1) h (by rfl) (by rfl) Tryz.underlying22 rfl rfl rfl rfl rfl (by omega) (by omega)) rfl rfl ?_
  rintro _ w ⟨b13, rfl, h⟩
  refine ⟨trivial, ?_⟩
  refine WT.pure 6 rfl (by kernel_rfl) (fun w' => (run_buildS (pl := [(0, 1), (1, 1), (2, 1)]) (out := [.int .i64 _, .slice _ _ _, .slice _ _ _]) Tryz.underlying110 Tryz.zeroValue110 (fun w => by kernel_rfl) rfl (⟨⟨_, _, rfl, rfl, by decide⟩, ⟨⟨_, _, rfl, rfl, by decide⟩, ⟨⟨_, _, rfl, rfl, by decide⟩, trivial⟩⟩⟩) rfl)) rfl rfl (WT.eff 7 [] rfl (by kernel_rfl) (by kernel_rfl) (eff_box (v := .agg _) (l := [.int .i64 _, .slice _ _ _, .slice _ _ _]) h rfl rfl) rfl rfl ?_)
  rintro _ w ⟨b17, rfl, h⟩
  refine ⟨trivial, ?_⟩
  refine WT.pure 8 rfl (by kernel_rfl) (fun w' => run_assign) rfl rfl (WT.pure 9 rfl (by kernel_rfl) (fun w' => run_assign) rfl rfl (WT.done (by kernel_rfl) (W.ret (bodyQ.r2 (v1 := .pointer _) (v2 := .int .i64 _) Tryz.results46 rfl rfl ?_))))
  have eB : List.replicate (n * 8) (Value.int .u8 0) = bytesV (List.replicate (8 * n) 0) := by rw [Nat.mul_comm]; simp [bytesV, byteV]
  have lB : (List.replicate (8 * n) (0 : UInt8)).length = n * 8 := by rw [List.length_replicate, Nat.mul_comm]
  have hx := closeR2 (L := L) (T := 110) (s := newS n) (b := b17) (pc := pc) (v1 := .slice (some ⟨b13, 0, none⟩) (n * 8) (n * 8)) (v2 := .slice a15 (List.replicate ((n + 7) / 8) (0 : UInt8)).length c15) (mm := List.replicate ((n + 7) / 8) 0) (N := n) (xs := List.replicate (n * 8) (Value.int .u8 0)) (newS_wf hn1 hn) rfl eB lB (by rw [List.length_replicate]; omega) h.to
  obtain ⟨pc2, hs2, h⟩ := hx
  exact ⟨pc2, b17, hs2, rfl, h⟩

end Go.Proofs.YtdpakoefdpmebaaGreat
