/-
  The contracts of maps of bits. Lines of walks printed by a program of the prover's.
-/
import Derived.Test.YtdpakoefdpmebaaGreatChecked
import Derived.Test.YtdpakoefdpmebaaGreatSlB
import Derived.Test.YtdpakoefdpmebaaGreatBitRows
namespace Go.Proofs.YtdpakoefdpmebaaGreat
open Go Go.Sl Go.Sl.BitM
set_option linter.unusedVariables false
set_option linter.unusedSimpArgs false
set_option maxHeartbeats 4000000
set_option maxRecDepth 8000
theorem Tryz.follows : Tryz.prog.follows .mixedOrders = true := by kernel_rfl
variable {W0 w : World} {L F : List HProp}

theorem bnew_ok {n : Int} (h : On W0 L w) : Calls Tryz.prog 106 #[.int .i64 n] w (Ret fun v w' => ∃ a c, v = .slice a (newB n).length c ∧ On W0 (Own 1 (.slice a (newB n).length c) (newB n).length (bytesV (newB n)) :: L) w') := by
  refine enter Tryz.func106 rfl Tryz.ntmps106 rfl ?_
  have hl := maxLen_eq
  refine W.seq (W.region (WL.val run_assign rfl rfl (WL.nil (W.seq (W.seq (W.region (WL.val run_move rfl rfl ?_)))))))
  refine WL.dec (run_lss rfl rfl) rfl rfl (fun c4 => ?_) (fun c4 => ?_)
  ·
   refine WL.val run_move rfl rfl (WL.skip rfl rfl (WL.skip rfl rfl (WL.val (run_pickT rfl) rfl rfl (WL.nil (W.condT rfl (W.seq (W.region ?_)))))))
   refine WL.val run_assign rfl rfl (WL.nil (W.ret (bodyQ.r1 (v := .slice _ _ _) Tryz.results106 rfl ?_)))
   have e : newB n = [] := by unfold newB; rw [if_pos (by omega)]
   rw [e]
   exact ⟨none, 0, rfl, h.ownEmpty 1 none⟩
  refine WL.val run_move rfl rfl (WL.val run_move rfl rfl (WL.val (run_gtr rfl rfl) rfl rfl (WL.val (run_pickF rfl) rfl rfl (WL.nil ?_))))
  refine W.condIf rfl (fun c2 => ?_) (fun c2 => ?_)
  ·
   refine W.seq (W.region (WL.val run_assign rfl rfl (WL.nil (W.ret (bodyQ.r1 (v := .slice _ _ _) Tryz.results106 rfl ?_)))))
   have e : newB n = [] := by unfold newB; rw [if_pos (by omega)]
   rw [e]
   exact ⟨none, 0, rfl, h.ownEmpty 1 none⟩
  refine W.skip (W.seq ?_)
  have ob_ := Int.eq_ofNat_of_zero_le (show 0 ≤ n by omega)
  obtain ⟨N, rfl⟩ := ob_
  have e : newB (N : Int) = List.replicate ((N + 7) / 8) 0 := by unfold newB; rw [if_neg (by omega)]; simp
  refine W.region (WL.val run_move rfl rfl (WL.val (run_add rfl rfl (by omega) (by omega)) rfl rfl (WL.val (run_quo rfl rfl (by omega) (by omega) (by omega)) rfl rfl (WL.eff (eff_make (n := (N + 7) / 8) (bytes := 1) h (by show Value.int .i64 (((N : Int) + 7) / 8) = _; rfl) (by show Value.int .i64 (((N : Int) + 7) / 8) = _; rfl) Tryz.underlying144 rfl rfl rfl rfl rfl (by omega) (by omega)) rfl rfl ?_))))
  rintro _ w ⟨b12, rfl, h⟩
  refine WL.val run_assign rfl rfl (WL.nil (W.ret (bodyQ.r1 (v := .slice _ _ _) Tryz.results106 rfl ?_)))
  rw [e, List.length_replicate]
  exact ⟨_, _, rfl, by rw [show bytesV (List.replicate ((N + 7) / 8) 0) = List.replicate ((N + 7) / 8) (.int .u8 0) by simp [bytesV, byteV]]; exact h⟩

theorem in_ok {a : Option Addr} {n c : Nat} {i : Int} (h : On W0 L w) (hn : n ≤ 1048576) : Calls Tryz.prog 153 #[.slice a n c, .int .i64 i] w (Ret fun v w' => ((0 ≤ i ∧ i < 8 * (n : Int) ∧ v = .bool true) ∨ (¬ (0 ≤ i ∧ i < 8 * (n : Int)) ∧ v = .bool false)) ∧ On W0 L w') := by
  refine enter Tryz.func153 rfl Tryz.ntmps153 rfl (W.seq (W.region (WL.val run_assign rfl rfl (WL.nil (W.seq (W.region (WL.val run_move rfl rfl ?_)))))))
  refine WL.dec (run_geq rfl rfl) rfl rfl (fun c6 => ?_) (fun c6 => ?_)
  ·
   refine WL.val run_move rfl rfl (WL.val run_move rfl rfl (WL.val run_move rfl rfl (WL.val (run_lenSlice Tryz.underlying144 rfl) rfl rfl (WL.val (run_mul rfl rfl (by omega) (by omega)) rfl rfl ?_))))
   refine WL.dec (run_lss rfl rfl) rfl rfl (fun c12 => ?_) (fun c12 => ?_)
   ·
    refine WL.val (run_pickT rfl) rfl rfl (WL.val run_assign rfl rfl (WL.nil (W.ret (bodyQ.r1 (v := .bool _) Tryz.results153 rfl ?_))))
    exact ⟨.inl ⟨by omega, by omega, rfl⟩, h⟩
   refine WL.val (run_pickT rfl) rfl rfl (WL.val run_assign rfl rfl (WL.nil (W.ret (bodyQ.r1 (v := .bool _) Tryz.results153 rfl ?_))))
   exact ⟨.inr ⟨by omega, rfl⟩, h⟩
  refine WL.val run_move rfl rfl (WL.skip rfl rfl (WL.skip rfl rfl (WL.skip rfl rfl (WL.skip rfl rfl (WL.skip rfl rfl (WL.val (run_pickF rfl) rfl rfl (WL.val run_assign rfl rfl ?_)))))))
  refine WL.nil (W.ret (bodyQ.r1 (v := .bool _) Tryz.results153 rfl ?_))
  exact ⟨.inr ⟨by omega, rfl⟩, h⟩

theorem has_ok {a : Option Addr} {n c : Nat} {m : List UInt8} (h : On W0 L w) (C : Gives L (Cells 1 (.slice a n c) n (bytesV m))) {i : Int} (hn : n ≤ 1048576) : Calls Tryz.prog 154 #[.slice a n c, .int .i64 i] w (Ret fun v w' => v = .bool (hasI m i) ∧ On W0 L w') := by
  refine enter Tryz.func154 rfl Tryz.ntmps154 rfl ?_
  have hml : m.length = n := by have := (h.reads C).1; simpa using this
  refine W.seq (W.region (WL.val run_assign rfl rfl (WL.nil (W.seq (W.region (WL.val run_move rfl rfl (WL.val run_move rfl rfl ?_)))))))
  refine WL.eff (eff_call Tryz.call153 (in_ok h hn)) rfl rfl ?_
  rintro _ w ⟨hv, h⟩
  rcases hv with ⟨hi0, hi1, rfl⟩ | ⟨hno, rfl⟩
  ·
   refine WL.val run_move rfl rfl (WL.val run_move rfl rfl ?_)
   have ob_ := Int.eq_ofNat_of_zero_le hi0
   obtain ⟨k, rfl⟩ := ob_
   have ob_ := (h.reads (Gives.to C)).addr (by omega)
   obtain ⟨bq, oq, hal⟩ := ob_
   subst hal
   have ob_ : ∃ x, m[k / 8]? = some x := ⟨m[k / 8]'(by omega), by simp⟩
   obtain ⟨x, hx⟩ := ob_
   have hx256 := x.toNat_lt
   refine WL.val run_move rfl rfl (WL.val (run_quo rfl rfl (by omega) (by omega) (by omega)) rfl rfl (WL.val (run_indexAddr Tryz.underlying144 Tryz.sizeOf5 rfl rfl (by omega) (by omega)) rfl rfl (WL.val (run_load1 Tryz.isAgg5 rfl ((h.reads (Gives.to C)).elem (i := k / 8) (vs := [.int .u8 x.toNat]) (by omega) (bytes_row hx) 0 _ rfl)) rfl rfl (WL.val run_move rfl rfl (WL.val (run_rem rfl rfl (by omega) (by omega)) rfl rfl (WL.val (run_shrN (j := k % 8) rfl rfl (by show k % 8 ≤ 8; omega)) rfl rfl (WL.val (run_andMod (n := 1) 1 rfl rfl (by show ((x.toNat / 2 ^ (k % 8) : Nat) : Int) ≤ 255; have := Nat.div_le_self x.toNat (2 ^ (k % 8)); omega) (by decide) rfl) rfl rfl ?_)))))))
   refine WL.val (run_eql rfl rfl) rfl rfl (WL.val (run_pickT rfl) rfl rfl (WL.val run_assign rfl rfl (WL.nil (W.ret (bodyQ.r1 (v := .bool _) Tryz.results154 rfl ?_)))))
   refine ⟨?_, h⟩
   rw [hasI_nat, bit_at hx]
   congr 1
   rw [decide_eq_decide]
   show ((x.toNat / 2 ^ (k % 8) % 2 ^ 1 : Nat) : Int) = 1 ↔ _
   omega
  refine WL.val run_move rfl rfl (WL.skip rfl rfl (WL.skip rfl rfl (WL.skip rfl rfl (WL.skip rfl rfl (WL.skip rfl rfl (WL.skip rfl rfl (WL.skip rfl rfl ?_)))))))
  refine WL.skip rfl rfl (WL.skip rfl rfl (WL.skip rfl rfl (WL.val (run_pickF rfl) rfl rfl (WL.val run_assign rfl rfl (WL.nil (W.ret (bodyQ.r1 (v := .bool _) Tryz.results154 rfl ?_)))))))
  exact ⟨by rw [hasI_out (by rw [hml]; exact hno)], h⟩

theorem turn_ok {a : Option Addr} {n c : Nat} {m : List UInt8} {fr k : Int} {s : Bool} (h : On W0 (Own 1 (.slice a n c) n (bytesV m) :: L) w) (hn : n ≤ 1048576) : Calls Tryz.prog 163 #[.slice a n c, .int .i64 fr, .int .i64 k, .bool s] w (Ret fun v w' => v = .int .i64 ((turns m fr k s : Nat) : Int) ∧ On W0 (Own 1 (.slice a n c) n (bytesV (turned m fr k s)) :: L) w') := by
  refine enter Tryz.func163 rfl Tryz.ntmps163 rfl ?_
  have hml : m.length = n := by have := (Own.openOn h).1; simpa using this
  refine W.seq (W.region (WL.val run_assign rfl rfl (WL.nil (W.seq (W.region (WL.val run_assign rfl rfl (WL.nil ?_)))))))
  refine W.seq (W.seq (W.region (WL.val run_move rfl rfl ?_)))
  refine WL.dec (run_lss rfl rfl) rfl rfl (fun c12 => ?_) (fun c12 => ?_)
  ·
   refine WL.val run_move rfl rfl (WL.skip rfl rfl (WL.skip rfl rfl (WL.val (run_pickT rfl) rfl rfl (WL.val run_move rfl rfl (WL.skip rfl rfl (WL.skip rfl rfl (WL.skip rfl rfl ?_)))))))
   refine WL.skip rfl rfl (WL.skip rfl rfl (WL.val (run_pickT rfl) rfl rfl (WL.nil (W.condT rfl (W.seq (W.region (WL.val run_assign rfl rfl ?_)))))))
   refine WL.nil (W.ret (bodyQ.r1 (v := .int .i64 _) Tryz.results163 rfl ?_))
   have e : turnK m fr k = 0 := by unfold turnK; rw [if_pos (by omega)]
   unfold turns turned
   rw [e]
   exact ⟨rfl, h⟩
  refine WL.val run_move rfl rfl (WL.val run_move rfl rfl ?_)
  refine WL.dec (run_lss rfl rfl) rfl rfl (fun c15 => ?_) (fun c15 => ?_)
  ·
   refine WL.val (run_pickF rfl) rfl rfl (WL.val run_move rfl rfl (WL.skip rfl rfl (WL.skip rfl rfl (WL.skip rfl rfl (WL.skip rfl rfl (WL.skip rfl rfl (WL.val (run_pickT rfl) rfl rfl ?_)))))))
   refine WL.nil (W.condT rfl (W.seq (W.region (WL.val run_assign rfl rfl (WL.nil (W.ret (bodyQ.r1 (v := .int .i64 _) Tryz.results163 rfl ?_)))))))
   have e : turnK m fr k = 0 := by unfold turnK; rw [if_pos (by omega)]
   unfold turns turned
   rw [e]
   exact ⟨rfl, h⟩
  refine WL.val (run_pickF rfl) rfl rfl (WL.val run_move rfl rfl (WL.val run_move rfl rfl (WL.val run_move rfl rfl (WL.val (run_lenSlice Tryz.underlying144 rfl) rfl rfl (WL.val (run_mul rfl rfl (by omega) (by omega)) rfl rfl (WL.val (run_geq rfl rfl) rfl rfl (WL.val (run_pickF rfl) rfl rfl ?_)))))))
  refine WL.nil ?_
  refine W.condIf rfl (fun c3 => ?_) (fun c3 => ?_)
  ·
   refine W.seq (W.region (WL.val run_assign rfl rfl (WL.nil (W.ret (bodyQ.r1 (v := .int .i64 _) Tryz.results163 rfl ?_)))))
   have e : turnK m fr k = 0 := by unfold turnK; rw [if_pos (by omega)]
   unfold turns turned
   rw [e]
   exact ⟨rfl, h⟩
  refine W.skip (W.seq (W.seq ?_))
  have ob_ := Int.eq_ofNat_of_zero_le (show 0 ≤ fr by omega)
  obtain ⟨lo, rfl⟩ := ob_
  have ob_ := Int.eq_ofNat_of_zero_le (show 0 ≤ k by omega)
  obtain ⟨N, rfl⟩ := ob_
  have hK : turnK m (lo : Int) (N : Int) = min N (8 * n - lo) := by unfold turnK; rw [if_neg (by omega), hml]; simp
  refine W.region (WL.val run_move rfl rfl (WL.val run_assign rfl rfl (WL.nil (W.block ?_))))
  refine W.loop (fun (q : Nat) env w => ∃ j, env = mkE j [(0, .slice a n c), (1, .int .i64 (lo : Int)), (2, .int .i64 (N : Int)), (3, .bool s), (9, .int .i64 (((turnN m lo s q).2 : Nat) : Int)), (10, .int .i64 ((lo + q : Nat) : Int))] ∧ q ≤ min N (8 * n - lo) ∧ On W0 (Own 1 (.slice a n c) n (bytesV (turnN m lo s q).1) :: L) w) (fun q => min N (8 * n - lo) - q) (0) ?_ ?_
  · exact ⟨_, mkE_of ⟨rfl, rfl, rfl, rfl, rfl, rfl, trivial⟩, Nat.zero_le _, h⟩
  rintro q env w ⟨j, rfl, hq, h⟩
  have hle := turnN_le m lo s q
  have hlq := turnN_length m lo s q
  refine W.seq (W.seq (W.region (WL.val run_move rfl rfl (WL.val run_move rfl rfl (WL.val run_move rfl rfl (WL.val run_move rfl rfl (WL.val (run_lenSlice Tryz.underlying144 rfl) rfl rfl ?_)))))))
  refine WL.val (run_mul rfl rfl (by omega) (by omega)) rfl rfl (WL.val run_move rfl rfl (WL.val (run_sub rfl rfl (by omega) (by omega)) rfl rfl (WL.val (run_minI rfl rfl) rfl rfl (WL.val (run_add rfl rfl (by omega) (by omega)) rfl rfl (WL.val (run_lss rfl rfl) rfl rfl (WL.nil ?_))))))
  refine W.condIf rfl (fun c11 => ?_) (fun c11 => ?_)
  ·
   refine W.skip (W.seq (W.block (W.seq (W.region (WL.val run_move rfl rfl (WL.val run_move rfl rfl (WL.eff (eff_call Tryz.call154 (has_ok h (Gives.ownO (v := .slice a n c)) hn)) rfl rfl ?_)))))))
   rintro _ w ⟨hv, h⟩
   rw [hasI_nat] at hv
   subst hv
   refine WL.val run_move rfl rfl (WL.val (run_neqBool Tryz.underlying4 rfl rfl) rfl rfl (WL.nil ?_))
   refine W.condB rfl (fun c16 => ?_) (fun c16 => ?_)
   ·
    refine W.seq ?_
    have ob_ := Own.addr h (by omega)
    obtain ⟨bq, oq, hal⟩ := ob_
    subst hal
    have ob_ : ∃ x, (turnN m lo s q).1[(lo + q) / 8]? = some x := ⟨(turnN m lo s q).1[(lo + q) / 8]'(by omega), by simp⟩
    obtain ⟨x, hx⟩ := ob_
    have hx256 := x.toNat_lt
    have hp2 : 1 * 2 ^ ((lo + q) % 8) ≤ 255 := by have := Nat.pow_le_pow_right (n := 2) (by omega) (show (lo + q) % 8 ≤ 7 by omega); omega
    have hxr := xor_lt x (show (lo + q) % 8 < 8 by omega)
    rw [← Nat.one_mul (2 ^ ((lo + q) % 8))] at hxr
    refine W.draw Tryz.follows h (fun w h => ?_)
    refine WT.pure 0 rfl (by kernel_rfl) (fun w' => run_move) rfl rfl (WT.pure 1 rfl (by kernel_rfl) (fun w' => run_move) rfl rfl (WT.pure 2 rfl (by kernel_rfl) (fun w' => (run_quo rfl rfl (by omega) (by omega) (by omega))) rfl rfl (WT.pure 3 rfl (by kernel_rfl) (fun w' => (run_indexAddr Tryz.underlying144 Tryz.sizeOf5 rfl rfl (by omega) (by omega))) rfl rfl (WT.load1 4 rfl (by kernel_rfl) Tryz.isAgg5 rfl ((h.cellsO (v := .slice (some ⟨bq, oq, none⟩) n c)).elem (i := (lo + q) / 8) (vs := [.int .u8 x.toNat]) (by omega) (bytes_row hx) 0 _ rfl) rfl rfl (WT.pure 5 rfl (by kernel_rfl) (fun w' => run_move) rfl rfl (WT.pure 6 rfl (by kernel_rfl) (fun w' => (run_rem rfl rfl (by omega) (by omega))) rfl rfl (WT.pure 7 rfl (by kernel_rfl) (fun w' => (run_shlN (m := 1) (j := (lo + q) % 8) rfl rfl (by show (lo + q) % 8 ≤ 8; omega) (by show _ ≤ (255 : Int); omega))) rfl rfl ?_)))))))
    refine WT.pure 8 rfl (by kernel_rfl) (fun w' => (run_xorN rfl rfl (by show _ ≤ (255 : Int); omega) (by show _ ≤ (255 : Int); omega) (by show _ ≤ (255 : Int); omega))) rfl rfl (WT.pure 9 rfl (by kernel_rfl) (fun w' => (run_indexAddr Tryz.underlying144 Tryz.sizeOf5 rfl rfl (by omega) (by omega))) rfl rfl (WT.eff 10 [false] rfl (by kernel_rfl) (by kernel_rfl) (eff_storeOwn (k := (lo + q) / 8 * 1) (v := .int .u8 _) h Tryz.sizeOf5 rfl rfl rfl (by omega)) rfl rfl ?_))
    rintro _ w h
    rw [Nat.mul_one, bytesV_flip hx] at h
    refine ⟨trivial, ?_⟩
    refine WT.done (by kernel_rfl) (W.region (WL.val run_move rfl rfl (WL.val (run_incN rfl rfl (by omega)) rfl rfl (WL.val run_assign rfl rfl (WL.nil (W.region (WL.val run_move rfl rfl ?_)))))))
    refine WL.val (run_add rfl rfl (by omega) (by omega)) rfl rfl (WL.val run_assign rfl rfl (WL.nil ?_))
    have e : turnN m lo s (q + 1) = (flip (turnN m lo s q).1 (lo + q), (turnN m lo s q).2 + 1) := by conv => { lhs; unfold turnN }; rw [if_neg (by intro hh; rw [hh] at c16; simp at c16)]
    exact ⟨q + 1, ⟨_, mkE_of ⟨rfl, rfl, rfl, rfl, (by rw [e]; rfl), rfl, trivial⟩, by omega, (by rw [e]; exact h)⟩, by show min N (8 * n - lo) - (q + 1) < min N (8 * n - lo) - q; omega⟩
   refine W.skip (W.region (WL.val run_move rfl rfl (WL.val (run_add rfl rfl (by omega) (by omega)) rfl rfl (WL.val run_assign rfl rfl (WL.nil ?_)))))
   have e : turnN m lo s (q + 1) = turnN m lo s q := by conv => { lhs; unfold turnN }; rw [if_pos (by simpa using c16)]
   exact ⟨q + 1, ⟨_, mkE_of ⟨rfl, rfl, rfl, rfl, (by rw [e]; rfl), rfl, trivial⟩, by omega, (by rw [e]; exact h)⟩, by show min N (8 * n - lo) - (q + 1) < min N (8 * n - lo) - q; omega⟩
  refine W.exit (W.seq (W.region (WL.val run_move rfl rfl (WL.val run_assign rfl rfl (WL.nil (W.ret (bodyQ.r1 (v := .int .i64 _) Tryz.results163 rfl ?_)))))))
  have ob_ : q = min N (8 * n - lo) := by omega
  obtain rfl := ob_
  unfold turns turned
  rw [hK]
  exact ⟨rfl, h⟩

theorem bset_ok {a : Option Addr} {n c : Nat} {m : List UInt8} {fr k : Int} (h : On W0 (Own 1 (.slice a n c) n (bytesV m) :: L) w) (hn : n ≤ 1048576) : Calls Tryz.prog 155 #[.slice a n c, .int .i64 fr, .int .i64 k] w (Ret fun v w' => v = .int .i64 ((turns m fr k true : Nat) : Int) ∧ On W0 (Own 1 (.slice a n c) n (bytesV (turned m fr k true)) :: L) w') := by
  refine enter Tryz.func155 rfl Tryz.ntmps155 rfl (W.seq (W.region (WL.val run_assign rfl rfl (WL.nil (W.seq (W.region (WL.val run_move rfl rfl ?_)))))))
  refine WL.val run_move rfl rfl (WL.val run_move rfl rfl (WL.eff (eff_call Tryz.call163 (turn_ok h hn)) rfl rfl ?_))
  rintro _ w ⟨rfl, h⟩
  refine WL.val run_assign rfl rfl (WL.nil (W.ret (bodyQ.r1 (v := .int .i64 _) Tryz.results155 rfl ?_)))
  exact ⟨rfl, h⟩

theorem bunset_ok {a : Option Addr} {n c : Nat} {m : List UInt8} {fr k : Int} (h : On W0 (Own 1 (.slice a n c) n (bytesV m) :: L) w) (hn : n ≤ 1048576) : Calls Tryz.prog 156 #[.slice a n c, .int .i64 fr, .int .i64 k] w (Ret fun v w' => v = .int .i64 ((turns m fr k false : Nat) : Int) ∧ On W0 (Own 1 (.slice a n c) n (bytesV (turned m fr k false)) :: L) w') := by
  refine enter Tryz.func156 rfl Tryz.ntmps156 rfl (W.seq (W.region (WL.val run_assign rfl rfl (WL.nil (W.seq (W.region (WL.val run_move rfl rfl ?_)))))))
  refine WL.val run_move rfl rfl (WL.val run_move rfl rfl (WL.eff (eff_call Tryz.call163 (turn_ok h hn)) rfl rfl ?_))
  rintro _ w ⟨rfl, h⟩
  refine WL.val run_assign rfl rfl (WL.nil (W.ret (bodyQ.r1 (v := .int .i64 _) Tryz.results156 rfl ?_)))
  exact ⟨rfl, h⟩

theorem bnext_ok {a : Option Addr} {n c : Nat} {m : List UInt8} (h : On W0 L w) (C : Gives L (Cells 1 (.slice a n c) n (bytesV m))) {fr : Int} {s : Bool} {a0 : Nat} (ha : max fr 0 = (a0 : Int)) (hn : n ≤ 1048576) : Calls Tryz.prog 130 #[.slice a n c, .int .i64 fr, .bool s] w (Ret fun v w' => v = nxV (nx m s a0) ∧ On W0 L w') := by
  refine enter Tryz.func130 rfl Tryz.ntmps130 rfl ?_
  have hml : m.length = n := by have := (h.reads C).1; simpa using this
  refine W.seq (W.region (WL.val run_assign rfl rfl (WL.val run_assign rfl rfl (WL.nil (W.scope (W.seq (W.region ?_)))))))
  refine WL.val run_move rfl rfl (WL.val (run_maxI rfl rfl) rfl rfl (WL.val run_assign rfl rfl (WL.nil (W.seq (W.label (W.seq (W.block ?_)))))))
  refine W.loop (fun (q : Nat) env w => ∃ j, env = mkE j [(0, .slice a n c), (2, .bool s), (8, .int .i64 (q : Int))] ∧ nx m s q = nx m s a0 ∧ On W0 L w) (fun q => 8 * n - q) (a0) ?_ ?_
  · exact ⟨_, mkE_of ⟨rfl, rfl, (by show Value.int .i64 (max fr 0) = _; rw [ha]), trivial⟩, rfl, h⟩
  rintro q env w ⟨j, rfl, hq, h⟩
  refine W.block (W.seq (W.block (W.seq (W.region (WL.val run_move rfl rfl (WL.val run_move rfl rfl (WL.eff (eff_call Tryz.call153 (in_ok h hn)) rfl rfl ?_)))))))
  rintro _ w ⟨hv, h⟩
  rcases hv with ⟨hi0, hi1, rfl⟩ | ⟨hno, rfl⟩
  ·
   refine WL.val (run_not rfl) rfl rfl (WL.val run_assign rfl rfl (WL.nil (W.condF rfl (W.seq (W.region (WL.val run_move rfl rfl (WL.val run_move rfl rfl ?_)))))))
   refine WL.eff (eff_call Tryz.call154 (has_ok h C hn)) rfl rfl ?_
   rintro _ w ⟨hv, h⟩
   rw [hasI_nat] at hv
   subst hv
   refine WL.val run_move rfl rfl (WL.val (run_eqlBool Tryz.underlying4 rfl rfl) rfl rfl (WL.val run_assign rfl rfl (WL.nil ?_)))
   refine W.condB rfl (fun c13 => ?_) (fun c13 => ?_)
   ·
    refine W.exit (W.seq (W.region (WL.val run_move rfl rfl (WL.val run_assign rfl rfl (WL.val run_assign rfl rfl (WL.nil (W.ret ?_)))))))
    refine bodyQ.r2 (v1 := .int .i64 _) (v2 := .bool _) Tryz.results130 rfl rfl ?_
    refine ⟨?_, h⟩
    rw [← hq, nx_hit (by omega) (by simpa using c13)]
    rfl
   refine W.skip (W.region (WL.val run_move rfl rfl (WL.val (run_incN rfl rfl (by omega)) rfl rfl (WL.val run_assign rfl rfl (WL.nil ?_)))))
   exact ⟨q + 1, ⟨_, mkE_of ⟨rfl, rfl, rfl, trivial⟩, (by rw [← hq, ← nx_miss (by omega) (by simpa using c13)]), h⟩, by show 8 * n - (q + 1) < 8 * n - q; omega⟩
  refine WL.val (run_not rfl) rfl rfl (WL.val run_assign rfl rfl (WL.nil (W.condT rfl (W.seq (W.region (WL.val run_assign rfl rfl (WL.val run_assign rfl rfl ?_)))))))
  refine WL.nil (W.ret (bodyQ.r2 (v1 := .int .i64 _) (v2 := .bool _) Tryz.results130 rfl rfl ?_))
  refine ⟨?_, h⟩
  rw [← hq, nx_out (by omega)]
  rfl

theorem clip_rows {a : Option Addr} {n c : Nat} {xs : List Value} (h : On W0 (Own 2 (.slice a n c) n xs :: L) w) :
    Calls Tryz.prog 131 #[.slice a n c] w (Ret fun v w' => v = .slice a n n ∧ On W0 (Own 2 (.slice a n n) n xs :: L) w') := by
  refine enter Tryz.func131 rfl Tryz.ntmps131 rfl ?_
  have ob_ := Own.form h
  obtain ⟨a', c', hv, hnc, hcm, hnone⟩ := ob_
  simp only [Value.slice.injEq] at hv
  obtain ⟨rfl, _, rfl⟩ := hv
  refine W.seq (W.region (WL.val run_assign rfl rfl (WL.nil (W.seq (W.region (WL.val run_move rfl rfl (WL.val run_move rfl rfl ?_)))))))
  refine WL.val (run_lenSlice Tryz.underlying147 rfl) rfl rfl (WL.val run_move rfl rfl (WL.val (run_lenSlice Tryz.underlying147 rfl) rfl rfl (WL.val (run_cutHM Tryz.underlying147 Tryz.sizeOf149 rfl rfl rfl  (by omega) (by omega)) rfl rfl (WL.val run_assign rfl rfl (WL.nil (W.ret (bodyQ.r1 (v := .slice _ _ _) Tryz.results131 rfl ?_)))))))
  exact ⟨rfl, Own.clip h⟩

theorem runs_ok {a : Option Addr} {n c : Nat} {m : List UInt8} (h : On W0 L w) (C : Gives L (Cells 1 (.slice a n c) n (bytesV m))) (hn : n ≤ 1048576) : Calls Tryz.prog 81 #[.slice a n c] w (Ret fun v w' => ∃ Rr a', v = .slice a' Rr.length Rr.length ∧ Rr = rowsOf m ∧ BitM.Rows m Rr ∧ On W0 (Own 2 (.slice a' Rr.length Rr.length) Rr.length (Rr.flatMap rowc) :: L) w') := by
  refine enter Tryz.func81 rfl Tryz.ntmps81 rfl ?_
  have hml : m.length = n := by have := (h.reads C).1; simpa using this
  have hmx := maxLen_eq
  refine W.seq (W.region (WL.val run_assign rfl rfl (WL.nil (W.seq (W.region (WL.val run_assign rfl rfl (WL.nil ?_)))))))
  refine W.seq (W.seq (W.region (WL.val run_move rfl rfl (WL.eff (eff_call Tryz.call130 (bnext_ok (a0 := 0) h C rfl hn)) rfl rfl ?_))))
  rintro _ w ⟨rfl, h⟩
  have h := h.ownEmpty 2 none
  refine WL.val run_move rfl rfl (WL.val (run_extract rfl rfl) rfl rfl (WL.val (run_extract rfl rfl) rfl rfl (WL.val run_assign rfl rfl (WL.val run_assign rfl rfl (WL.nil (W.block ?_))))))
  refine W.loop (fun (st : List (Nat × Nat) × Nat) env w => ∃ j Rr e ao co at_ ov, st = (Rr, e) ∧ env = mkE j [(0, .slice a n c), (3, .slice ao Rr.length co), (4, .int .i64 ((at_ : Nat) : Int)), (5, .bool ov)] ∧ ((ov = true → nx m true e = some at_) ∧ (ov = false → nx m true e = none)) ∧ BitM.Good m Rr e ∧ Sofar m Rr e ∧ On W0 (Own 2 (.slice ao Rr.length co) Rr.length (Rr.flatMap rowc) :: L) w) (fun st => 8 * n - st.2) (([], 0)) ?_ ?_
  · exact ⟨_, [], 0, none, 0, (nx m true 0).getD 0, (nx m true 0).isSome, rfl, mkE_of ⟨rfl, rfl, rfl, rfl, trivial⟩, nx_flag _, BitM.Good.nil m, Sofar.nil m, h⟩
  rintro st env w ⟨j, Rr, e, ao, co, aa, ov, rfl, rfl, ⟨ho1, ho2⟩, G, Sf, h⟩
  have hGf : Rr.length ≤ e := G.few
  have hGl : e ≤ 8 * m.length := G.le
  refine W.seq (W.seq (W.region (WL.val run_move rfl rfl (WL.nil ?_))))
  refine W.condB rfl (fun c6 => ?_) (fun c6 => ?_)
  ·
   refine W.skip ?_
   have ho := ho1 c6
   have ob_ := nx_some ho
   obtain ⟨hx1, hx2, _, _⟩ := ob_
   refine W.block (W.seq (W.region (WL.val run_move rfl rfl (WL.val run_move rfl rfl (WL.eff (eff_call Tryz.call130 (bnext_ok (fr := (aa : Int)) (a0 := aa) h (Gives.to C) (by omega) hn)) rfl rfl ?_)))))
   rintro _ w ⟨hv, h⟩
   have ob_ := G.add ho
   obtain ⟨hgood, hlt⟩ := ob_
   have Sf := Sf.step ho hlt
   rw [hml] at hgood hlt Sf
   rcases nx_cases hv with ⟨b, hb, rfl⟩ | ⟨hb, rfl⟩ <;> simp only [hb, Option.getD_some, Option.getD_none] at hgood hlt Sf
   ·
    refine WL.val run_move rfl rfl (WL.val (run_extract rfl rfl) rfl rfl (WL.val (run_extract rfl rfl) rfl rfl (WL.val run_assign rfl rfl (WL.val run_assign rfl rfl (WL.nil (W.seq (W.seq ?_)))))))
    have ob_ := nx_some hb
    obtain ⟨y1, y2, _, _⟩ := ob_
    refine W.region (WL.val run_move rfl rfl (WL.val (run_not rfl) rfl rfl (WL.nil (W.condF rfl (W.skip (W.seq (W.region ?_)))))))
    refine WL.val run_move rfl rfl (WL.val run_move rfl rfl (WL.val run_move rfl rfl (WL.val run_move rfl rfl (WL.val (run_subN rfl rfl (by omega) (by omega)) rfl rfl (WL.val (run_buildA (out := [.int .i64 _, .int .i64 _]) Tryz.underlying149 Tryz.sizeOf3 Tryz.zeroValue149 rfl rfl (by simp) (⟨⟨_, _, rfl, rfl, by decide⟩, ⟨⟨_, _, rfl, rfl, by decide⟩, trivial⟩⟩) rfl) rfl rfl (WL.eff (eff_mkSlice (zl := [.int .i64 0, .int .i64 0]) (out := [.int .i64 _, .int .i64 _]) h Tryz.underlying147 Tryz.sizeOf149 Tryz.zeroValue149 (by decide) (by kernel_rfl) rfl rfl (by simp) (⟨⟨_, _, rfl, rfl, by decide⟩, trivial⟩) rfl rfl (by simp [maxLen])) rfl rfl ?_))))))
    rintro _ w ⟨b31, rfl, h⟩
    refine WL.eff (eff_app (c2 := 1) (bytes := 16) h rfl rfl (h.cellsO (v := .slice (some ⟨b31, 0, none⟩) 1 1)) Tryz.underlying147 rfl rfl rfl rfl rfl (by omega) (by omega) (by simp [Value.oneCell'])) rfl rfl ?_
    rintro _ w ⟨a32, c32, rfl, h⟩
    refine WL.val run_assign rfl rfl (WL.nil (W.region (WL.val run_move rfl rfl (WL.val run_move rfl rfl (WL.eff (eff_call Tryz.call130 (bnext_ok (fr := (b : Int)) (a0 := b) h (Gives.to C) (by omega) hn)) rfl rfl ?_)))))
    rintro _ w ⟨rfl, h⟩
    refine WL.val run_move rfl rfl (WL.val (run_extract rfl rfl) rfl rfl (WL.val (run_extract rfl rfl) rfl rfl (WL.val run_assign rfl rfl (WL.val run_assign rfl rfl (WL.nil ?_)))))
    exact ⟨(Rr ++ [(aa, b - aa)], b), ⟨_, _, _, a32, c32, (nx m true (b)).getD 0, (nx m true (b)).isSome, rfl, mkE_of ⟨rfl, (by show Value.slice a32 (Rr.length + 1) c32 = _; rw [List.length_append]; rfl), rfl, rfl, trivial⟩, nx_flag _, hgood, Sf, (by rw [show (Rr ++ [(aa, b - aa)]).flatMap rowc = Rr.flatMap rowc ++ [.int .i64 (aa : Int), .int .i64 ((b - aa : Nat) : Int)] by rw [List.flatMap_append]; rfl, List.length_append]; exact h.to)⟩, by show 8 * n - (b) < 8 * n - e; omega⟩
   refine WL.val run_move rfl rfl (WL.val (run_extract rfl rfl) rfl rfl (WL.val (run_extract rfl rfl) rfl rfl (WL.val run_assign rfl rfl (WL.val run_assign rfl rfl (WL.nil (W.seq (W.seq ?_)))))))
   refine W.region (WL.val run_move rfl rfl (WL.val (run_not rfl) rfl rfl (WL.nil (W.condT rfl (W.region (WL.val run_move rfl rfl (WL.val (run_lenSlice Tryz.underlying144 rfl) rfl rfl ?_)))))))
   refine WL.val (run_mulN (m := 8) (n := n) rfl rfl (by omega)) rfl rfl (WL.val run_assign rfl rfl (WL.nil (W.seq (W.region (WL.val run_move rfl rfl (WL.val run_move rfl rfl (WL.val run_move rfl rfl ?_)))))))
   refine WL.val run_move rfl rfl (WL.val (run_subN rfl rfl (by omega) (by omega)) rfl rfl (WL.val (run_buildA (out := [.int .i64 _, .int .i64 _]) Tryz.underlying149 Tryz.sizeOf3 Tryz.zeroValue149 rfl rfl (by simp) (⟨⟨_, _, rfl, rfl, by decide⟩, ⟨⟨_, _, rfl, rfl, by decide⟩, trivial⟩⟩) rfl) rfl rfl (WL.eff (eff_mkSlice (zl := [.int .i64 0, .int .i64 0]) (out := [.int .i64 _, .int .i64 _]) h Tryz.underlying147 Tryz.sizeOf149 Tryz.zeroValue149 (by decide) (by kernel_rfl) rfl rfl (by simp) (⟨⟨_, _, rfl, rfl, by decide⟩, trivial⟩) rfl rfl (by simp [maxLen])) rfl rfl ?_)))
   rintro _ w ⟨b31, rfl, h⟩
   refine WL.eff (eff_app (c2 := 1) (bytes := 16) h rfl rfl (h.cellsO (v := .slice (some ⟨b31, 0, none⟩) 1 1)) Tryz.underlying147 rfl rfl rfl rfl rfl (by omega) (by omega) (by simp [Value.oneCell'])) rfl rfl ?_
   rintro _ w ⟨a32, c32, rfl, h⟩
   refine WL.val run_assign rfl rfl (WL.nil (W.region (WL.val run_move rfl rfl (WL.val run_move rfl rfl (WL.eff (eff_call Tryz.call130 (bnext_ok (fr := ((8 * n : Nat) : Int)) (a0 := 8 * n) h (Gives.to C) (by omega) hn)) rfl rfl ?_)))))
   rintro _ w ⟨rfl, h⟩
   refine WL.val run_move rfl rfl (WL.val (run_extract rfl rfl) rfl rfl (WL.val (run_extract rfl rfl) rfl rfl (WL.val run_assign rfl rfl (WL.val run_assign rfl rfl (WL.nil ?_)))))
   exact ⟨(Rr ++ [(aa, 8 * n - aa)], 8 * n), ⟨_, _, _, a32, c32, (nx m true (8 * n)).getD 0, (nx m true (8 * n)).isSome, rfl, mkE_of ⟨rfl, (by show Value.slice a32 (Rr.length + 1) c32 = _; rw [List.length_append]; rfl), rfl, rfl, trivial⟩, nx_flag _, hgood, Sf, (by rw [show (Rr ++ [(aa, 8 * n - aa)]).flatMap rowc = Rr.flatMap rowc ++ [.int .i64 (aa : Int), .int .i64 ((8 * n - aa : Nat) : Int)] by rw [List.flatMap_append]; rfl, List.length_append]; exact h.to)⟩, by show 8 * n - (8 * n) < 8 * n - e; omega⟩
  refine W.exit (W.seq ?_)
  have hno := ho2 c6
  refine W.region (WL.val run_move rfl rfl (WL.eff (eff_call Tryz.call131 (clip_rows h)) rfl rfl ?_))
  rintro _ w ⟨rfl, h⟩
  refine WL.val run_assign rfl rfl (WL.nil (W.ret (bodyQ.r1 (v := .slice _ _ _) Tryz.results81 rfl ?_)))
  exact ⟨Rr, ao, rfl, Sf.fin hno, G.rows hno, h⟩

end Go.Proofs.YtdpakoefdpmebaaGreat
