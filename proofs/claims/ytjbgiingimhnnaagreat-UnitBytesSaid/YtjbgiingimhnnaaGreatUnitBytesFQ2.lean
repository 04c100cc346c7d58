/-
  The contracts of maps of bits. Lines of walks printed by a program of the prover's.
-/
import Derived.Test.YtjbgiingimhnnaaGreatChecked
import Derived.Test.YtjbgiingimhnnaaGreatUnitBytesFQ1
namespace Go.Proofs.YtjbgiingimhnnaaGreat
open Go.Proofs.Tryz
open Go Go.Sl Go.Sl.BitM
set_option linter.unusedVariables false
set_option linter.unusedSimpArgs false
set_option maxHeartbeats 4000000
set_option maxRecDepth 8000
theorem Tryz.follows : Tryz.prog.follows .mixedOrders = true := by kernel_rfl
variable {W0 w : World} {L F : List HProp}
theorem bnew_ok {n : Int} (h : On W0 L w) : Calls Tryz.prog 78 #[.int .i64 n] w (Ret fun v w' => ∃ a c, v = .slice a (newB n).length c ∧ On W0 (Own 1 (.slice a (newB n).length c) (newB n).length (bytesV (newB n)) :: L) w') := by
  refine enter func78 rfl ntmps78 rfl ?_
  have hl := maxLen_eq
  refine W.seq (W.region (WL.val run_assign rfl rfl (WL.nil (W.seq (W.seq (W.region (WL.val run_move rfl rfl ?_)))))))
  refine WL.dec (run_lss rfl rfl) rfl rfl (fun c4 => ?_) (fun c4 => ?_)
  ·
   refine WL.val run_move rfl rfl (WL.skip rfl rfl (WL.skip rfl rfl (WL.val (run_pickT rfl) rfl rfl (WL.nil (W.condT rfl (W.seq (W.region ?_)))))))
   refine WL.val run_assign rfl rfl (WL.nil (W.ret (bodyQ.r1 (v := .slice _ _ _) results78 rfl ?_)))
   have e : newB n = [] := by unfold newB; rw [if_pos (by omega)]
   rw [e]
   exact ⟨none, 0, rfl, h.ownEmpty 1 none⟩
  refine WL.val run_move rfl rfl (WL.val run_move rfl rfl (WL.val (run_gtr rfl rfl) rfl rfl (WL.val (run_pickF rfl) rfl rfl (WL.nil ?_))))
  refine W.condIf rfl (fun c2 => ?_) (fun c2 => ?_)
  ·
   refine W.seq (W.region (WL.val run_assign rfl rfl (WL.nil (W.ret (bodyQ.r1 (v := .slice _ _ _) results78 rfl ?_)))))
   have e : newB n = [] := by unfold newB; rw [if_pos (by omega)]
   rw [e]
   exact ⟨none, 0, rfl, h.ownEmpty 1 none⟩
  refine W.skip (W.seq ?_)
  have ob_ := Int.eq_ofNat_of_zero_le (show 0 ≤ n by omega)
  obtain ⟨N, rfl⟩ := ob_
  have e : newB (N : Int) = List.replicate ((N + 7) / 8) 0 := by unfold newB; rw [if_neg (by omega)]; simp
  refine W.region (WL.val run_move rfl rfl (WL.val (run_add rfl rfl (by omega) (by omega)) rfl rfl (WL.val (run_quo rfl rfl (by omega) (by omega) (by omega)) rfl rfl (WL.eff (eff_make (n := (N + 7) / 8) (bytes := 1) h (by show Value.int .i64 (((N : Int) + 7) / 8) = _; rfl) (by show Value.int .i64 (((N : Int) + 7) / 8) = _; rfl) underlying103 rfl rfl rfl rfl rfl (by omega) (by omega)) rfl rfl ?_))))
  rintro _ w ⟨b12, rfl, h⟩
  refine WL.val run_assign rfl rfl (WL.nil (W.ret (bodyQ.r1 (v := .slice _ _ _) results78 rfl ?_)))
  rw [e, List.length_replicate]
  exact ⟨_, _, rfl, by rw [show bytesV (List.replicate ((N + 7) / 8) 0) = List.replicate ((N + 7) / 8) (.int .u8 0) by simp [bytesV, byteV]]; exact h⟩
theorem in_ok {a : Option Addr} {n c : Nat} {i : Int} (h : On W0 L w) (hn : n ≤ 1048576) : Calls Tryz.prog 139 #[.slice a n c, .int .i64 i] w (Ret fun v w' => ((0 ≤ i ∧ i < 8 * (n : Int) ∧ v = .bool true) ∨ (¬ (0 ≤ i ∧ i < 8 * (n : Int)) ∧ v = .bool false)) ∧ On W0 L w') := by
  refine enter func139 rfl ntmps139 rfl (W.seq (W.region (WL.val run_assign rfl rfl (WL.nil (W.seq (W.region (WL.val run_move rfl rfl ?_)))))))
  refine WL.dec (run_geq rfl rfl) rfl rfl (fun c6 => ?_) (fun c6 => ?_)
  ·
   refine WL.val run_move rfl rfl (WL.val run_move rfl rfl (WL.val run_move rfl rfl (WL.val (run_lenSlice underlying103 rfl) rfl rfl (WL.val (run_mul rfl rfl (by omega) (by omega)) rfl rfl ?_))))
   refine WL.dec (run_lss rfl rfl) rfl rfl (fun c12 => ?_) (fun c12 => ?_)
   ·
    refine WL.val (run_pickT rfl) rfl rfl (WL.val run_assign rfl rfl (WL.nil (W.ret (bodyQ.r1 (v := .bool _) results139 rfl ?_))))
    exact ⟨.inl ⟨by omega, by omega, rfl⟩, h⟩
   refine WL.val (run_pickT rfl) rfl rfl (WL.val run_assign rfl rfl (WL.nil (W.ret (bodyQ.r1 (v := .bool _) results139 rfl ?_))))
   exact ⟨.inr ⟨by omega, rfl⟩, h⟩
  refine WL.val run_move rfl rfl (WL.skip rfl rfl (WL.skip rfl rfl (WL.skip rfl rfl (WL.skip rfl rfl (WL.skip rfl rfl (WL.val (run_pickF rfl) rfl rfl (WL.val run_assign rfl rfl ?_)))))))
  refine WL.nil (W.ret (bodyQ.r1 (v := .bool _) results139 rfl ?_))
  exact ⟨.inr ⟨by omega, rfl⟩, h⟩
theorem has_ok {a : Option Addr} {n c : Nat} {m : List UInt8} (h : On W0 L w) (C : Gives L (Cells 1 (.slice a n c) n (bytesV m))) {i : Int} (hn : n ≤ 1048576) : Calls Tryz.prog 140 #[.slice a n c, .int .i64 i] w (Ret fun v w' => v = .bool (hasI m i) ∧ On W0 L w') := by
  refine enter func140 rfl ntmps140 rfl ?_
  have hml : m.length = n := by have := (h.reads C).1; simpa using this
  refine W.seq (W.region (WL.val run_assign rfl rfl (WL.nil (W.seq (W.region (WL.val run_move rfl rfl (WL.val run_move rfl rfl ?_)))))))
  refine WL.eff (eff_call call139 (in_ok h hn)) rfl rfl ?_
  rintro _ w ⟨hv, h⟩
  rcases hv with ⟨hi0, hi1, rfl⟩ | ⟨hno, rfl⟩
  ·
   refine WL.val run_move rfl rfl (WL.val run_move rfl rfl ?_)
   have ob_ := Int.eq_ofNat_of_zero_le hi0
   obtain ⟨k, rfl⟩ := ob_
   have ob_ := (h.reads (Gives.to C)).addr (by omega)
   obtain ⟨bq, oq, hal⟩ := ob_
   subst hal
   have ob_ : ∃ x, m[k / 8]? = some x := ⟨m[k / 8]'(by omega), by simp⟩
   obtain ⟨x, hx⟩ := ob_
   have hx256 := x.toNat_lt
   refine WL.val run_move rfl rfl (WL.val (run_quo rfl rfl (by omega) (by omega) (by omega)) rfl rfl (WL.val (run_indexAddr underlying103 sizeOf5 rfl rfl (by omega) (by omega)) rfl rfl (WL.val (run_load1 isAgg5 rfl ((h.reads (Gives.to C)).elem (i := k / 8) (vs := [.int .u8 x.toNat]) (by omega) (bytes_row hx) 0 _ rfl)) rfl rfl (WL.val run_move rfl rfl (WL.val (run_rem rfl rfl (by omega) (by omega)) rfl rfl (WL.val (run_shrN (j := k % 8) rfl rfl (by show k % 8 ≤ 8; omega)) rfl rfl (WL.val (run_andMod (n := 1) 1 rfl rfl (by show ((x.toNat / 2 ^ (k % 8) : Nat) : Int) ≤ 255; have := Nat.div_le_self x.toNat (2 ^ (k % 8)); omega) (by decide) rfl) rfl rfl ?_)))))))
   refine WL.val (run_eql rfl rfl) rfl rfl (WL.val (run_pickT rfl) rfl rfl (WL.val run_assign rfl rfl (WL.nil (W.ret (bodyQ.r1 (v := .bool _) results140 rfl ?_)))))
   refine ⟨?_, h⟩
   rw [hasI_nat, bit_at hx]
   congr 1
   rw [decide_eq_decide]
   show ((x.toNat / 2 ^ (k % 8) % 2 ^ 1 : Nat) : Int) = 1 ↔ _
   omega
  refine WL.val run_move rfl rfl (WL.skip rfl rfl (WL.skip rfl rfl (WL.skip rfl rfl (WL.skip rfl rfl (WL.skip rfl rfl (WL.skip rfl rfl (WL.skip rfl rfl ?_)))))))
  refine WL.skip rfl rfl (WL.skip rfl rfl (WL.skip rfl rfl (WL.val (run_pickF rfl) rfl rfl (WL.val run_assign rfl rfl (WL.nil (W.ret (bodyQ.r1 (v := .bool _) results140 rfl ?_)))))))
  exact ⟨by rw [hasI_out (by rw [hml]; exact hno)], h⟩
theorem turn_ok {a : Option Addr} {n c : Nat} {m : List UInt8} {fr k : Int} {s : Bool} (h : On W0 (Own 1 (.slice a n c) n (bytesV m) :: L) w) (hn : n ≤ 1048576) : Calls Tryz.prog 149 #[.slice a n c, .int .i64 fr, .int .i64 k, .bool s] w (Ret fun v w' => v = .int .i64 ((turns m fr k s : Nat) : Int) ∧ On W0 (Own 1 (.slice a n c) n (bytesV (turned m fr k s)) :: L) w') := by
  refine enter func149 rfl ntmps149 rfl ?_
  have hml : m.length = n := by have := (Own.openOn h).1; simpa using this
  refine W.seq (W.region (WL.val run_assign rfl rfl (WL.nil (W.seq (W.region (WL.val run_assign rfl rfl (WL.nil ?_)))))))
  refine W.seq (W.seq (W.region (WL.val run_move rfl rfl ?_)))
  refine WL.dec (run_lss rfl rfl) rfl rfl (fun c12 => ?_) (fun c12 => ?_)
  ·
   refine WL.val run_move rfl rfl (WL.skip rfl rfl (WL.skip rfl rfl (WL.val (run_pickT rfl) rfl rfl (WL.val run_move rfl rfl (WL.skip rfl rfl (WL.skip rfl rfl (WL.skip rfl rfl ?_)))))))
   refine WL.skip rfl rfl (WL.skip rfl rfl (WL.val (run_pickT rfl) rfl rfl (WL.nil (W.condT rfl (W.seq (W.region (WL.val run_assign rfl rfl ?_)))))))
   refine WL.nil (W.ret (bodyQ.r1 (v := .int .i64 _) results149 rfl ?_))
   have e : turnK m fr k = 0 := by unfold turnK; rw [if_pos (by omega)]
   unfold turns turned
   rw [e]
   exact ⟨rfl, h⟩
  refine WL.val run_move rfl rfl (WL.val run_move rfl rfl ?_)
  refine WL.dec (run_lss rfl rfl) rfl rfl (fun c15 => ?_) (fun c15 => ?_)
  ·
   refine WL.val (run_pickF rfl) rfl rfl (WL.val run_move rfl rfl (WL.skip rfl rfl (WL.skip rfl rfl (WL.skip rfl rfl (WL.skip rfl rfl (WL.skip rfl rfl (WL.val (run_pickT rfl) rfl rfl ?_)))))))
   refine WL.nil (W.condT rfl (W.seq (W.region (WL.val run_assign rfl rfl (WL.nil (W.ret (bodyQ.r1 (v := .int .i64 _) results149 rfl ?_)))))))
   have e : turnK m fr k = 0 := by unfold turnK; rw [if_pos (by omega)]
   unfold turns turned
   rw [e]
   exact ⟨rfl, h⟩
  refine WL.val (run_pickF rfl) rfl rfl (WL.val run_move rfl rfl (WL.val run_move rfl rfl (WL.val run_move rfl rfl (WL.val (run_lenSlice underlying103 rfl) rfl rfl (WL.val (run_mul rfl rfl (by omega) (by omega)) rfl rfl (WL.val (run_geq rfl rfl) rfl rfl (WL.val (run_pickF rfl) rfl rfl ?_)))))))
  refine WL.nil ?_
  refine W.condIf rfl (fun c3 => ?_) (fun c3 => ?_)
  ·
   refine W.seq (W.region (WL.val run_assign rfl rfl (WL.nil (W.ret (bodyQ.r1 (v := .int .i64 _) results149 rfl ?_)))))
   have e : turnK m fr k = 0 := by unfold turnK; rw [if_pos (by omega)]
   unfold turns turned
   rw [e]
   exact ⟨rfl, h⟩
  refine W.skip (W.seq (W.seq ?_))
  have ob_ := Int.eq_ofNat_of_zero_le (show 0 ≤ fr by omega)
  obtain ⟨lo, rfl⟩ := ob_
  have ob_ := Int.eq_ofNat_of_zero_le (show 0 ≤ k by omega)
  obtain ⟨N, rfl⟩ := ob_
  have hK : turnK m (lo : Int) (N : Int) = min N (8 * n - lo) := by unfold turnK; rw [if_neg (by omega), hml]; simp
  refine W.region (WL.val run_move rfl rfl (WL.val run_assign rfl rfl (WL.nil (W.block ?_))))
  refine W.loop (fun (q : Nat) env w => ∃ j, env = mkE j [(0, .slice a n c), (1, .int .i64 (lo : Int)), (2, .int .i64 (N : Int)), (3, .bool s), (9, .int .i64 (((turnN m lo s q).2 : Nat) : Int)), (10, .int .i64 ((lo + q : Nat) : Int))] ∧ q ≤ min N (8 * n - lo) ∧ On W0 (Own 1 (.slice a n c) n (bytesV (turnN m lo s q).1) :: L) w) (fun q => min N (8 * n - lo) - q) (0) ?_ ?_
  · exact ⟨_, mkE_of ⟨rfl, rfl, rfl, rfl, rfl, rfl, trivial⟩, Nat.zero_le _, h⟩
  rintro q env w ⟨j, rfl, hq, h⟩
  have hle := turnN_le m lo s q
  have hlq := turnN_length m lo s q
  refine W.seq (W.seq (W.region (WL.val run_move rfl rfl (WL.val run_move rfl rfl (WL.val run_move rfl rfl (WL.val run_move rfl rfl (WL.val (run_lenSlice underlying103 rfl) rfl rfl ?_)))))))
  refine WL.val (run_mul rfl rfl (by omega) (by omega)) rfl rfl (WL.val run_move rfl rfl (WL.val (run_sub rfl rfl (by omega) (by omega)) rfl rfl (WL.val (run_minI rfl rfl) rfl rfl (WL.val (run_add rfl rfl (by omega) (by omega)) rfl rfl (WL.val (run_lss rfl rfl) rfl rfl (WL.nil ?_))))))
  refine W.condIf rfl (fun c11 => ?_) (fun c11 => ?_)
  ·
   refine W.skip (W.seq (W.block (W.seq (W.region (WL.val run_move rfl rfl (WL.val run_move rfl rfl (WL.eff (eff_call call140 (has_ok h (Gives.ownO (v := .slice a n c)) hn)) rfl rfl ?_)))))))
   rintro _ w ⟨hv, h⟩
   rw [hasI_nat] at hv
   subst hv
   refine WL.val run_move rfl rfl (WL.val (run_neqBool underlying4 rfl rfl) rfl rfl (WL.nil ?_))
   refine W.condB rfl (fun c16 => ?_) (fun c16 => ?_)
   ·
    refine W.seq ?_
    have ob_ := Own.addr h (by omega)
    obtain ⟨bq, oq, hal⟩ := ob_
    subst hal
    have ob_ : ∃ x, (turnN m lo s q).1[(lo + q) / 8]? = some x := ⟨(turnN m lo s q).1[(lo + q) / 8]'(by omega), by simp⟩
    obtain ⟨x, hx⟩ := ob_
    have hx256 := x.toNat_lt
    have hp2 : 1 * 2 ^ ((lo + q) % 8) ≤ 255 := by have := Nat.pow_le_pow_right (n := 2) (by omega) (show (lo + q) % 8 ≤ 7 by omega); omega
    have hxr := xor_lt x (show (lo + q) % 8 < 8 by omega)
    rw [← Nat.one_mul (2 ^ ((lo + q) % 8))] at hxr
    refine W.draw Tryz.follows h (fun w h => ?_)
    refine WT.pure 0 rfl (by kernel_rfl) (fun w' => run_move) rfl rfl (WT.pure 1 rfl (by kernel_rfl) (fun w' => run_move) rfl rfl (WT.pure 2 rfl (by kernel_rfl) (fun w' => (run_quo rfl rfl (by omega) (by omega) (by omega))) rfl rfl (WT.pure 3 rfl (by kernel_rfl) (fun w' => (run_indexAddr underlying103 sizeOf5 rfl rfl (by omega) (by omega))) rfl rfl (WT.load1 4 rfl (by kernel_rfl) isAgg5 rfl ((h.cellsO (v := .slice (some ⟨bq, oq, none⟩) n c)).elem (i := (lo + q) / 8) (vs := [.int .u8 x.toNat]) (by omega) (bytes_row hx) 0 _ rfl) rfl rfl (WT.pure 5 rfl (by kernel_rfl) (fun w' => run_move) rfl rfl (WT.pure 6 rfl (by kernel_rfl) (fun w' => (run_rem rfl rfl (by omega) (by omega))) rfl rfl (WT.pure 7 rfl (by kernel_rfl) (fun w' => (run_shlN (m := 1) (j := (lo + q) % 8) rfl rfl (by show (lo + q) % 8 ≤ 8; omega) (by show _ ≤ (255 : Int); omega))) rfl rfl ?_)))))))
    refine WT.pure 8 rfl (by kernel_rfl) (fun w' => (run_xorN rfl rfl (by show _ ≤ (255 : Int); omega) (by show _ ≤ (255 : Int); omega) (by show _ ≤ (255 : Int); omega))) rfl rfl (WT.pure 9 rfl (by kernel_rfl) (fun w' => (run_indexAddr underlying103 sizeOf5 rfl rfl (by omega) (by omega))) rfl rfl (WT.eff 10 [false] rfl (by kernel_rfl) (by kernel_rfl) (eff_storeOwn (k := (lo + q) / 8 * 1) (v := .int .u8 _) h sizeOf5 rfl rfl rfl (by omega)) rfl rfl ?_))
    rintro _ w h
    rw [Nat.mul_one, bytesV_flip hx] at h
    refine ⟨trivial, ?_⟩
    refine WT.done (by kernel_rfl) (W.region (WL.val run_move rfl rfl (WL.val (run_incN rfl rfl (by omega)) rfl rfl (WL.val run_assign rfl rfl (WL.nil (W.region (WL.val run_move rfl rfl ?_)))))))
    refine WL.val (run_add rfl rfl (by omega) (by omega)) rfl rfl (WL.val run_assign rfl rfl (WL.nil ?_))
    have e : turnN m lo s (q + 1) = (flip (turnN m lo s q).1 (lo + q), (turnN m lo s q).2 + 1) := by conv => { lhs; unfold turnN }; rw [if_neg (by intro hh; rw [hh] at c16; simp at c16)]
    exact ⟨q + 1, ⟨_, mkE_of ⟨rfl, rfl, rfl, rfl, (by rw [e]; rfl), rfl, trivial⟩, by omega, (by rw [e]; exact h)⟩, by show min N (8 * n - lo) - (q + 1) < min N (8 * n - lo) - q; omega⟩
   refine W.skip (W.region (WL.val run_move rfl rfl (WL.val (run_add rfl rfl (by omega) (by omega)) rfl rfl (WL.val run_assign rfl rfl (WL.nil ?_)))))
   have e : turnN m lo s (q + 1) = turnN m lo s q := by conv => { lhs; unfold turnN }; rw [if_pos (by simpa using c16)]
   exact ⟨q + 1, ⟨_, mkE_of ⟨rfl, rfl, rfl, rfl, (by rw [e]; rfl), rfl, trivial⟩, by omega, (by rw [e]; exact h)⟩, by show min N (8 * n - lo) - (q + 1) < min N (8 * n - lo) - q; omega⟩
  refine W.exit (W.seq (W.region (WL.val run_move rfl rfl (WL.val run_assign rfl rfl (WL.nil (W.ret (bodyQ.r1 (v := .int .i64 _) results149 rfl ?_)))))))
  have ob_ : q = min N (8 * n - lo) := by omega
  obtain rfl := ob_
  unfold turns turned
  rw [hK]
  exact ⟨rfl, h⟩
theorem bset_ok {a : Option Addr} {n c : Nat} {m : List UInt8} {fr k : Int} (h : On W0 (Own 1 (.slice a n c) n (bytesV m) :: L) w) (hn : n ≤ 1048576) : Calls Tryz.prog 141 #[.slice a n c, .int .i64 fr, .int .i64 k] w (Ret fun v w' => v = .int .i64 ((turns m fr k true : Nat) : Int) ∧ On W0 (Own 1 (.slice a n c) n (bytesV (turned m fr k true)) :: L) w') := by
  refine enter func141 rfl ntmps141 rfl (W.seq (W.region (WL.val run_assign rfl rfl (WL.nil (W.seq (W.region (WL.val run_move rfl rfl ?_)))))))
  refine WL.val run_move rfl rfl (WL.val run_move rfl rfl (WL.eff (eff_call call149 (turn_ok h hn)) rfl rfl ?_))
  rintro _ w ⟨rfl, h⟩
  refine WL.val run_assign rfl rfl (WL.nil (W.ret (bodyQ.r1 (v := .int .i64 _) results141 rfl ?_)))
  exact ⟨rfl, h⟩
theorem bunset_ok {a : Option Addr} {n c : Nat} {m : List UInt8} {fr k : Int} (h : On W0 (Own 1 (.slice a n c) n (bytesV m) :: L) w) (hn : n ≤ 1048576) : Calls Tryz.prog 142 #[.slice a n c, .int .i64 fr, .int .i64 k] w (Ret fun v w' => v = .int .i64 ((turns m fr k false : Nat) : Int) ∧ On W0 (Own 1 (.slice a n c) n (bytesV (turned m fr k false)) :: L) w') := by
  refine enter func142 rfl ntmps142 rfl (W.seq (W.region (WL.val run_assign rfl rfl (WL.nil (W.seq (W.region (WL.val run_move rfl rfl ?_)))))))
  refine WL.val run_move rfl rfl (WL.val run_move rfl rfl (WL.eff (eff_call call149 (turn_ok h hn)) rfl rfl ?_))
  rintro _ w ⟨rfl, h⟩
  refine WL.val run_assign rfl rfl (WL.nil (W.ret (bodyQ.r1 (v := .int .i64 _) results142 rfl ?_)))
  exact ⟨rfl, h⟩
theorem bnext_ok {a : Option Addr} {n c : Nat} {m : List UInt8} (h : On W0 L w) (C : Gives L (Cells 1 (.slice a n c) n (bytesV m))) {fr : Int} {s : Bool} {a0 : Nat} (ha : max fr 0 = (a0 : Int)) (hn : n ≤ 1048576) : Calls Tryz.prog 104 #[.slice a n c, .int .i64 fr, .bool s] w (Ret fun v w' => v = nxV (nx m s a0) ∧ On W0 L w') := by
  refine enter func104 rfl ntmps104 rfl ?_
  have hml : m.length = n := by have := (h.reads C).1; simpa using this
  refine W.seq (W.region (WL.val run_assign rfl rfl (WL.val run_assign rfl rfl (WL.nil (W.scope (W.seq (W.region ?_)))))))
  refine WL.val run_move rfl rfl (WL.val (run_maxI rfl rfl) rfl rfl (WL.val run_assign rfl rfl (WL.nil (W.seq (W.label (W.seq (W.block ?_)))))))
  refine W.loop (fun (q : Nat) env w => ∃ j, env = mkE j [(0, .slice a n c), (2, .bool s), (8, .int .i64 (q : Int))] ∧ nx m s q = nx m s a0 ∧ On W0 L w) (fun q => 8 * n - q) (a0) ?_ ?_
  · exact ⟨_, mkE_of ⟨rfl, rfl, (by show Value.int .i64 (max fr 0) = _; rw [ha]), trivial⟩, rfl, h⟩
  rintro q env w ⟨j, rfl, hq, h⟩
  refine W.block (W.seq (W.block (W.seq (W.region (WL.val run_move rfl rfl (WL.val run_move rfl rfl (WL.eff (eff_call call139 (in_ok h hn)) rfl rfl ?_)))))))
  rintro _ w ⟨hv, h⟩
  rcases hv with ⟨hi0, hi1, rfl⟩ | ⟨hno, rfl⟩
  ·
   refine WL.val (run_not rfl) rfl rfl (WL.val run_assign rfl rfl (WL.nil (W.condF rfl (W.seq (W.region (WL.val run_move rfl rfl (WL.val run_move rfl rfl ?_)))))))
   refine WL.eff (eff_call call140 (has_ok h C hn)) rfl rfl ?_
   rintro _ w ⟨hv, h⟩
   rw [hasI_nat] at hv
   subst hv
   refine WL.val run_move rfl rfl (WL.val (run_eqlBool underlying4 rfl rfl) rfl rfl (WL.val run_assign rfl rfl (WL.nil ?_)))
   refine W.condB rfl (fun c13 => ?_) (fun c13 => ?_)
   ·
    refine W.exit (W.seq (W.region (WL.val run_move rfl rfl (WL.val run_assign rfl rfl (WL.val run_assign rfl rfl (WL.nil (W.ret ?_)))))))
    refine bodyQ.r2 (v1 := .int .i64 _) (v2 := .bool _) results104 rfl rfl ?_
    refine ⟨?_, h⟩
    rw [← hq, nx_hit (by omega) (by simpa using c13)]
    rfl
   refine W.skip (W.region (WL.val run_move rfl rfl (WL.val (run_incN rfl rfl (by omega)) rfl rfl (WL.val run_assign rfl rfl (WL.nil ?_)))))
   exact ⟨q + 1, ⟨_, mkE_of ⟨rfl, rfl, rfl, trivial⟩, (by rw [← hq, ← nx_miss (by omega) (by simpa using c13)]), h⟩, by show 8 * n - (q + 1) < 8 * n - q; omega⟩
  refine WL.val (run_not rfl) rfl rfl (WL.val run_assign rfl rfl (WL.nil (W.condT rfl (W.seq (W.region (WL.val run_assign rfl rfl (WL.val run_assign rfl rfl ?_)))))))
  refine WL.nil (W.ret (bodyQ.r2 (v1 := .int .i64 _) (v2 := .bool _) results104 rfl rfl ?_))
  refine ⟨?_, h⟩
  rw [← hq, nx_out (by omega)]
  rfl
theorem clip_rows {a : Option Addr} {n c : Nat} {xs : List Value} (h : On W0 (Own 2 (.slice a n c) n xs :: L) w) :
    Calls Tryz.prog 105 #[.slice a n c] w (Ret fun v w' => v = .slice a n n ∧ On W0 (Own 2 (.slice a n n) n xs :: L) w') := by
  refine enter func105 rfl ntmps105 rfl ?_
  have ob_ := Own.form h
  obtain ⟨a', c', hv, hnc, hcm, hnone⟩ := ob_
  simp only [Value.slice.injEq] at hv
  obtain ⟨rfl, _, rfl⟩ := hv
  refine W.seq (W.region (WL.val run_assign rfl rfl (WL.nil (W.seq (W.region (WL.val run_move rfl rfl (WL.val run_move rfl rfl ?_)))))))
  refine WL.val (run_lenSlice underlying106 rfl) rfl rfl (WL.val run_move rfl rfl (WL.val (run_lenSlice underlying106 rfl) rfl rfl (WL.val (run_cutHM underlying106 sizeOf108 rfl rfl rfl  (by omega) (by omega)) rfl rfl (WL.val run_assign rfl rfl (WL.nil (W.ret (bodyQ.r1 (v := .slice _ _ _) results105 rfl ?_)))))))
  exact ⟨rfl, Own.clip h⟩
theorem runs_ok {a : Option Addr} {n c : Nat} {m : List UInt8} (h : On W0 L w) (C : Gives L (Cells 1 (.slice a n c) n (bytesV m))) (hn : n ≤ 1048576) : Calls Tryz.prog 53 #[.slice a n c] w (Ret fun v w' => ∃ Rr a', v = .slice a' Rr.length Rr.length ∧ Rr = rowsOf m ∧ BitM.Rows m Rr ∧ On W0 (Own 2 (.slice a' Rr.length Rr.length) Rr.length (Rr.flatMap rowc) :: L) w') := by
  refine enter func53 rfl ntmps53 rfl ?_
  have hml : m.length = n := by have := (h.reads C).1; simpa using this
  have hmx := maxLen_eq
  refine W.seq (W.region (WL.val run_assign rfl rfl (WL.nil (W.seq (W.region (WL.val run_assign rfl rfl (WL.nil ?_)))))))
  refine W.seq (W.seq (W.region (WL.val run_move rfl rfl (WL.eff (eff_call call104 (bnext_ok (a0 := 0) h C rfl hn)) rfl rfl ?_))))
  rintro _ w ⟨rfl, h⟩
  have h := h.ownEmpty 2 none
  refine WL.val run_move rfl rfl (WL.val (run_extract rfl rfl) rfl rfl (WL.val (run_extract rfl rfl) rfl rfl (WL.val run_assign rfl rfl (WL.val run_assign rfl rfl (WL.nil (W.block ?_))))))
  refine W.loop (fun (st : List (Nat × Nat) × Nat) env w => ∃ j Rr e ao co at_ ov, st = (Rr, e) ∧ env = mkE j [(0, .slice a n c), (3, .slice ao Rr.length co), (4, .int .i64 ((at_ : Nat) : Int)), (5, .bool ov)] ∧ ((ov = true → nx m true e = some at_) ∧ (ov = false → nx m true e = none)) ∧ BitM.Good m Rr e ∧ Sofar m Rr e ∧ On W0 (Own 2 (.slice ao Rr.length co) Rr.length (Rr.flatMap rowc) :: L) w) (fun st => 8 * n - st.2) (([], 0)) ?_ ?_
  · exact ⟨_, [], 0, none, 0, (nx m true 0).getD 0, (nx m true 0).isSome, rfl, mkE_of ⟨rfl, rfl, rfl, rfl, trivial⟩, nx_flag _, BitM.Good.nil m, Sofar.nil m, h⟩
  rintro st env w ⟨j, Rr, e, ao, co, aa, ov, rfl, rfl, ⟨ho1, ho2⟩, G, Sf, h⟩
  have hGf : Rr.length ≤ e := G.few
  have hGl : e ≤ 8 * m.length := G.le
  refine W.seq (W.seq (W.region (WL.val run_move rfl rfl (WL.nil ?_))))
  refine W.condB rfl (fun c6 => ?_) (fun c6 => ?_)
  ·
   refine W.skip ?_
   have ho := ho1 c6
   have ob_ := nx_some ho
   obtain ⟨hx1, hx2, _, _⟩ := ob_
   refine W.block (W.seq (W.region (WL.val run_move rfl rfl (WL.val run_move rfl rfl (WL.eff (eff_call call104 (bnext_ok (fr := (aa : Int)) (a0 := aa) h (Gives.to C) (by omega) hn)) rfl rfl ?_)))))
   rintro _ w ⟨hv, h⟩
   have ob_ := G.add ho
   obtain ⟨hgood, hlt⟩ := ob_
   have Sf := Sf.step ho hlt
   rw [hml] at hgood hlt Sf
   rcases nx_cases hv with ⟨b, hb, rfl⟩ | ⟨hb, rfl⟩ <;> simp only [hb, Option.getD_some, Option.getD_none] at hgood hlt Sf
   ·
    refine WL.val run_move rfl rfl (WL.val (run_extract rfl rfl) rfl rfl (WL.val (run_extract rfl rfl) rfl rfl (WL.val run_assign rfl rfl (WL.val run_assign rfl rfl (WL.nil (W.seq (W.seq ?_)))))))
    have ob_ := nx_some hb
    obtain ⟨y1, y2, _, _⟩ := ob_
    refine W.region (WL.val run_move rfl rfl (WL.val (run_not rfl) rfl rfl (WL.nil (W.condF rfl (W.skip (W.seq (W.region ?_)))))))
    refine WL.val run_move rfl rfl (WL.val run_move rfl rfl (WL.val run_move rfl rfl (WL.val run_move rfl rfl (WL.val (run_subN rfl rfl (by omega) (by omega)) rfl rfl (WL.val (run_buildA (out := [.int .i64 _, .int .i64 _]) underlying108 sizeOf3 zeroValue108 rfl rfl (by simp) (⟨⟨_, _, rfl, rfl, by decide⟩, ⟨⟨_, _, rfl, rfl, by decide⟩, trivial⟩⟩) rfl) rfl rfl (WL.eff (eff_mkSlice (zl := [.int .i64 0, .int .i64 0]) (out := [.int .i64 _, .int .i64 _]) h underlying106 sizeOf108 zeroValue108 (by decide) (by kernel_rfl) rfl rfl (by simp) (⟨⟨_, _, rfl, rfl, by decide⟩, trivial⟩) rfl rfl (by simp [maxLen])) rfl rfl ?_))))))
    rintro _ w ⟨b31, rfl, h⟩
    refine WL.eff (eff_app (c2 := 1) (bytes := 16) h rfl rfl (h.cellsO (v := .slice (some ⟨b31, 0, none⟩) 1 1)) underlying106 rfl rfl rfl rfl rfl (by omega) (by omega) (by simp [Value.oneCell'])) rfl rfl ?_
    rintro _ w ⟨a32, c32, rfl, h⟩
    refine WL.val run_assign rfl rfl (WL.nil (W.region (WL.val run_move rfl rfl (WL.val run_move rfl rfl (WL.eff (eff_call call104 (bnext_ok (fr := (b : Int)) (a0 := b) h (Gives.to C) (by omega) hn)) rfl rfl ?_)))))
    rintro _ w ⟨rfl, h⟩
    refine WL.val run_move rfl rfl (WL.val (run_extract rfl rfl) rfl rfl (WL.val (run_extract rfl rfl) rfl rfl (WL.val run_assign rfl rfl (WL.val run_assign rfl rfl (WL.nil ?_)))))
    exact ⟨(Rr ++ [(aa, b - aa)], b), ⟨_, _, _, a32, c32, (nx m true (b)).getD 0, (nx m true (b)).isSome, rfl, mkE_of ⟨rfl, (by show Value.slice a32 (Rr.length + 1) c32 = _; rw [List.length_append]; rfl), rfl, rfl, trivial⟩, nx_flag _, hgood, Sf, (by rw [show (Rr ++ [(aa, b - aa)]).flatMap rowc = Rr.flatMap rowc ++ [.int .i64 (aa : Int), .int .i64 ((b - aa : Nat) : Int)] by rw [List.flatMap_append]; rfl, List.length_append]; exact h.to)⟩, by show 8 * n - (b) < 8 * n - e; omega⟩
   refine WL.val run_move rfl rfl (WL.val (run_extract rfl rfl) rfl rfl (WL.val (run_extract rfl rfl) rfl rfl (WL.val run_assign rfl rfl (WL.val run_assign rfl rfl (WL.nil (W.seq (W.seq ?_)))))))
   refine W.region (WL.val run_move rfl rfl (WL.val (run_not rfl) rfl rfl (WL.nil (W.condT rfl (W.region (WL.val run_move rfl rfl (WL.val (run_lenSlice underlying103 rfl) rfl rfl ?_)))))))
   refine WL.val (run_mulN (m := 8) (n := n) rfl rfl (by omega)) rfl rfl (WL.val run_assign rfl rfl (WL.nil (W.seq (W.region (WL.val run_move rfl rfl (WL.val run_move rfl rfl (WL.val run_move rfl rfl ?_)))))))
   refine WL.val run_move rfl rfl (WL.val (run_subN rfl rfl (by omega) (by omega)) rfl rfl (WL.val (run_buildA (out := [.int .i64 _, .int .i64 _]) underlying108 sizeOf3 zeroValue108 rfl rfl (by simp) (⟨⟨_, _, rfl, rfl, by decide⟩, ⟨⟨_, _, rfl, rfl, by decide⟩, trivial⟩⟩) rfl) rfl rfl (WL.eff (eff_mkSlice (zl := [.int .i64 0, .int .i64 0]) (out := [.int .i64 _, .int .i64 _]) h underlying106 sizeOf108 zeroValue108 (by decide) (by kernel_rfl) rfl rfl (by simp) (⟨⟨_, _, rfl, rfl, by decide⟩, trivial⟩) rfl rfl (by simp [maxLen])) rfl rfl ?_)))
   rintro _ w ⟨b31, rfl, h⟩
   refine WL.eff (eff_app (c2 := 1) (bytes := 16) h rfl rfl (h.cellsO (v := .slice (some ⟨b31, 0, none⟩) 1 1)) underlying106 rfl rfl rfl rfl rfl (by omega) (by omega) (by simp [Value.oneCell'])) rfl rfl ?_
   rintro _ w ⟨a32, c32, rfl, h⟩
   refine WL.val run_assign rfl rfl (WL.nil (W.region (WL.val run_move rfl rfl (WL.val run_move rfl rfl (WL.eff (eff_call call104 (bnext_ok (fr := ((8 * n : Nat) : Int)) (a0 := 8 * n) h (Gives.to C) (by omega) hn)) rfl rfl ?_)))))
   rintro _ w ⟨rfl, h⟩
   refine WL.val run_move rfl rfl (WL.val (run_extract rfl rfl) rfl rfl (WL.val (run_extract rfl rfl) rfl rfl (WL.val run_assign rfl rfl (WL.val run_assign rfl rfl (WL.nil ?_)))))
   exact ⟨(Rr ++ [(aa, 8 * n - aa)], 8 * n), ⟨_, _, _, a32, c32, (nx m true (8 * n)).getD 0, (nx m true (8 * n)).isSome, rfl, mkE_of ⟨rfl, (by show Value.slice a32 (Rr.length + 1) c32 = _; rw [List.length_append]; rfl), rfl, rfl, trivial⟩, nx_flag _, hgood, Sf, (by rw [show (Rr ++ [(aa, 8 * n - aa)]).flatMap rowc = Rr.flatMap rowc ++ [.int .i64 (aa : Int), .int .i64 ((8 * n - aa : Nat) : Int)] by rw [List.flatMap_append]; rfl, List.length_append]; exact h.to)⟩, by show 8 * n - (8 * n) < 8 * n - e; omega⟩
  refine W.exit (W.seq ?_)
  have hno := ho2 c6
  refine W.region (WL.val run_move rfl rfl (WL.eff (eff_call call105 (clip_rows h)) rfl rfl ?_))
  rintro _ w ⟨rfl, h⟩
  refine WL.val run_assign rfl rfl (WL.nil (W.ret (bodyQ.r1 (v := .slice _ _ _) results53 rfl ?_)))
  exact ⟨Rr, ao, rfl, Sf.fin hno, G.rows hno, h⟩
end Go.Proofs.YtjbgiingimhnnaaGreat
/-
  The blocks as plain data, and as they lie. No program is named here.
-/
namespace Go.Sl.SpM
open Go Go.Sl Go.Sl.BitM
set_option linter.unusedVariables false
/-- Some of a list, written over. -/
def over (l : List UInt8) (o : Nat) (bs : List UInt8) : List UInt8 := l.take o ++ bs ++ l.drop (o + bs.length)
theorem over_length {l : List UInt8} {o : Nat} {bs : List UInt8} (h : o + bs.length ≤ l.length) : (over l o bs).length = l.length := by
  simp only [over, List.length_append, List.length_take, List.length_drop]; omega
theorem bytesV_over (l : List UInt8) (o : Nat) (bs : List UInt8) : splice (bytesV l) o (bytesV bs) = bytesV (over l o bs) := by
  simp [splice, over, bytesV, List.map_take, List.map_drop]
theorem over_nil (l : List UInt8) (o : Nat) : over l o [] = l := by simp [over]
/-- The blocks: how many, their bytes, which are mapped. -/
structure Sp where
  N : Nat
  d : List UInt8
  m : List UInt8
def newS (n : Nat) : Sp := ⟨n, List.replicate (8 * n) 0, List.replicate ((n + 7) / 8) 0⟩
def inS (s : Sp) (at_ n : Int) : Prop := 0 ≤ n ∧ n ≤ 32 ∧ 0 ≤ at_ ∧ at_ ≤ s.N ∧ n ≤ s.N - at_
instance (s : Sp) (at_ n : Int) : Decidable (inS s at_ n) := by unfold inS; exact inferInstance
def writeS (s : Sp) (at_ : Nat) (bs : List UInt8) : Sp := ⟨s.N, over s.d (8 * at_) bs, turned s.m at_ ((bs.length / 8 : Nat) : Int) true⟩
def unmapS (s : Sp) (at_ n : Nat) : Sp := ⟨s.N, over s.d (8 * at_) (List.replicate (8 * n) 0), turned s.m at_ n false⟩
def partS (s : Sp) (at_ n : Nat) : List UInt8 := (s.d.drop (8 * at_)).take (8 * n)
def wfS (s : Sp) : Prop := s.d.length = 8 * s.N ∧ 1 ≤ s.N ∧ s.N ≤ 1024 ∧ s.m.length = (s.N + 7) / 8
def SpP (T b : Nat) (s : Sp) : HProp := Ex fun (x : Nat × Nat × Nat × Option Addr × Nat) => Pack (wfS s)
  [blk b [.int .i64 (s.N : Int), .slice (some ⟨x.1, x.2.1, none⟩) (8 * s.N) x.2.2.1, .slice x.2.2.2.1 s.m.length x.2.2.2.2] T,
   Own 1 (.slice (some ⟨x.1, x.2.1, none⟩) (8 * s.N) x.2.2.1) (8 * s.N) (bytesV s.d), Own 1 (.slice x.2.2.2.1 s.m.length x.2.2.2.2) s.m.length (bytesV s.m)]
section
variable {W0 w : World} {L : List HProp} {T b : Nat} {s : Sp}
theorem openS (H : On W0 (SpP T b s :: L) w) : ∃ gd od cd am cm, wfS s ∧ On W0 (blk b [.int .i64 (s.N : Int), .slice (some ⟨gd, od, none⟩) (8 * s.N) cd, .slice am s.m.length cm] T :: Own 1 (.slice (some ⟨gd, od, none⟩) (8 * s.N) cd) (8 * s.N) (bytesV s.d) ::
    Own 1 (.slice am s.m.length cm) s.m.length (bytesV s.m) :: L) w := by
  obtain ⟨⟨gd, od, cd, am, cm⟩, H⟩ := H.ex
  obtain ⟨h1, H⟩ := H.unpack
  exact ⟨gd, od, cd, am, cm, h1, H⟩
theorem closeS {gd od cd : Nat} {am : Option Addr} {cm : Nat} (h1 : wfS s) (H : On W0 (blk b [.int .i64 (s.N : Int), .slice (some ⟨gd, od, none⟩) (8 * s.N) cd, .slice am s.m.length cm] T :: Own 1 (.slice (some ⟨gd, od, none⟩) (8 * s.N) cd) (8 * s.N) (bytesV s.d) ::
    Own 1 (.slice am s.m.length cm) s.m.length (bytesV s.m) :: L) w) : On W0 (SpP T b s :: L) w := On.exI (gd, od, cd, am, cm) (On.pack h1 H)
end
theorem newS_wf {n : Nat} (h1 : 1 ≤ n) (h2 : n ≤ 1024) : wfS (newS n) := ⟨by simp [newS], h1, h2, by simp [newS]⟩
theorem writeS_wf {s : Sp} {at_ : Nat} {bs : List UInt8} (h : wfS s) (hb : 8 * at_ + bs.length ≤ 8 * s.N) : wfS (writeS s at_ bs) := by
  obtain ⟨h1, h2, h3, h4⟩ := h
  exact ⟨by show (over _ _ _).length = _; rw [over_length (by omega)]; exact h1, h2, h3, by show (turned _ _ _ _).length = _; rw [turned_length]; exact h4⟩
theorem unmapS_wf {s : Sp} {at_ n : Nat} (h : wfS s) (hb : at_ + n ≤ s.N) : wfS (unmapS s at_ n) := by
  obtain ⟨h1, h2, h3, h4⟩ := h
  exact ⟨by show (over _ _ _).length = _; rw [over_length (by simp; omega)]; exact h1, h2, h3, by show (turned _ _ _ _).length = _; rw [turned_length]; exact h4⟩
end Go.Sl.SpM
/-
  The contracts of the blocks. Lines of walks printed by a program of the prover's.
-/
namespace Go.Proofs.YtjbgiingimhnnaaGreat
open Go.Proofs.Tryz
open Go Go.Sl Go.Sl.BitM Go.Sl.SpM
set_option linter.unusedVariables false
set_option linter.unusedSimpArgs false
set_option maxHeartbeats 4000000
set_option maxRecDepth 8000
variable {W0 w : World} {L F : List HProp}
theorem clone_bytes {ao : Option Addr} {cap : Nat} {bs : List UInt8} (h : On W0 L w) (C : Gives L (Bytes (.slice ao bs.length cap) bs)) (hn : bs.length ≤ 140737488355328) :
    Calls Tryz.prog 57 #[.slice ao bs.length cap] w (Ret fun v w' => ∃ a c, v = .slice a bs.length c ∧ On W0 (OwnB (.slice a bs.length c) bs :: L) w') := by
  refine enter func57 rfl ntmps57 rfl ?_
  have ob_ := (h.reads C).form
  obtain ⟨ao', cap', hv, hnc, hcm, hnone⟩ := ob_
  simp only [Value.slice.injEq] at hv
  obtain ⟨rfl, _, rfl⟩ := hv
  have hl := maxLen_eq
  refine W.seq (W.region (WL.val run_assign rfl rfl (WL.nil (W.seq (W.seq (W.region (WL.val run_move rfl rfl ?_)))))))
  refine WL.val (run_eqlSliceNil underlying22 rfl rfl) rfl rfl (WL.nil ?_)
  refine W.condB rfl (fun c2 => ?_) (fun c2 => ?_)
  ·
   refine W.seq (W.region (WL.val run_assign rfl rfl (WL.nil (W.ret (bodyQ.r1 (v := .slice _ _ _) results57 rfl ?_)))))
   have h0 : cap = 0 := hnone (by simpa using c2)
   have hb : bs = [] := List.eq_nil_of_length_eq_zero (by omega)
   subst hb
   exact ⟨none, 0, rfl, h.ownEmpty 1 none⟩
  refine W.skip (W.seq (W.region (WL.eff (eff_mkSlice (zl := []) (out := []) h underlying22 sizeOf5 zeroValue5 (by decide) (by simp) rfl rfl (by simp) (trivial) rfl rfl (by simp [maxLen])) rfl rfl ?_)))
  rintro _ w ⟨b5, rfl, h⟩
  refine WL.val run_move rfl rfl (WL.eff (eff_app0 (bytes := 1) h rfl rfl (h.readsTo C) underlying22 rfl rfl rfl rfl rfl (by omega) (by omega) bytes_one) rfl rfl ?_)
  rintro _ w ⟨a, c, rfl, h⟩
  refine WL.val run_assign rfl rfl (WL.nil (W.ret (bodyQ.r1 (v := .slice _ _ _) results57 rfl ?_)))
  exact ⟨_, _, rfl, h⟩
theorem clip_bytes {a : Option Addr} {n c : Nat} {xs : List Value} (h : On W0 (Own 1 (.slice a n c) n xs :: L) w) :
    Calls Tryz.prog 51 #[.slice a n c] w (Ret fun v w' => v = .slice a n n ∧ On W0 (Own 1 (.slice a n n) n xs :: L) w') := by
  refine enter func51 rfl ntmps51 rfl ?_
  have ob_ := Own.form h
  obtain ⟨a', c', hv, hnc, hcm, hnone⟩ := ob_
  simp only [Value.slice.injEq] at hv
  obtain ⟨rfl, _, rfl⟩ := hv
  refine W.seq (W.region (WL.val run_assign rfl rfl (WL.nil (W.seq (W.region (WL.val run_move rfl rfl (WL.val run_move rfl rfl ?_)))))))
  refine WL.val (run_lenSlice underlying22 rfl) rfl rfl (WL.val run_move rfl rfl (WL.val (run_lenSlice underlying22 rfl) rfl rfl (WL.val (run_cutHM underlying22 sizeOf5 rfl rfl rfl  (by omega) (by omega)) rfl rfl (WL.val run_assign rfl rfl (WL.nil (W.ret (bodyQ.r1 (v := .slice _ _ _) results51 rfl ?_)))))))
  exact ⟨rfl, Own.clip h⟩
theorem in_s {b : Nat} {N : Nat} {cs : List Value} {e : Nat} {fr : Nat × Nat} {at_ n : Int} (hN : N ≤ 1024) (h : On W0 L w) [HasBlk L b (.int .i64 (N : Int) :: cs) e fr] :
    Calls Tryz.prog 107 #[.pointer (some ⟨b, 0, none⟩), .int .i64 at_, .int .i64 n] w (Ret fun v w' => ((v = .bool true ∧ 0 ≤ n ∧ n ≤ 32 ∧ 0 ≤ at_ ∧ at_ ≤ N ∧ n ≤ N - at_) ∨ (v = .bool false ∧ ¬ (0 ≤ n ∧ n ≤ 32 ∧ 0 ≤ at_ ∧ at_ ≤ N ∧ n ≤ N - at_))) ∧ On W0 L w') := by
  refine enter func107 rfl ntmps107 rfl (W.seq (W.region (WL.val run_assign rfl rfl (WL.nil (W.seq (W.region (WL.val run_move rfl rfl ?_)))))))
  refine WL.dec (run_geq rfl rfl) rfl rfl (fun c8 => ?_) (fun c8 => ?_)
  ·
   refine WL.val run_move rfl rfl (WL.val run_move rfl rfl ?_)
   refine WL.dec (run_leq rfl rfl) rfl rfl (fun c11 => ?_) (fun c11 => ?_)
   ·
    refine WL.val (run_pickT rfl) rfl rfl (WL.val run_move rfl rfl (WL.val run_move rfl rfl ?_))
    refine WL.dec (run_geq rfl rfl) rfl rfl (fun c15 => ?_) (fun c15 => ?_)
    ·
     refine WL.val (run_pickT rfl) rfl rfl (WL.val run_move rfl rfl (WL.val run_move rfl rfl (WL.val run_move rfl rfl (WL.val (run_nilCheck rfl) rfl rfl (WL.val (run_fieldAddr 0 underlying105 rfl sizeOf3 rfl rfl) rfl rfl (WL.val (run_load1 isAgg3 rfl (h.cellB rfl)) rfl rfl ?_))))))
     refine WL.dec (run_leq rfl rfl) rfl rfl (fun c23 => ?_) (fun c23 => ?_)
     ·
      refine WL.val (run_pickT rfl) rfl rfl (WL.val run_move rfl rfl (WL.val run_move rfl rfl (WL.val run_move rfl rfl (WL.val (run_nilCheck rfl) rfl rfl (WL.val (run_fieldAddr 0 underlying105 rfl sizeOf3 rfl rfl) rfl rfl (WL.val (run_load1 isAgg3 rfl (h.cellB rfl)) rfl rfl (WL.val run_move rfl rfl ?_)))))))
      refine WL.val (run_sub rfl rfl (by omega) (by omega)) rfl rfl ?_
      refine WL.dec (run_leq rfl rfl) rfl rfl (fun c33 => ?_) (fun c33 => ?_)
      ·
       refine WL.val (run_pickT rfl) rfl rfl (WL.val run_assign rfl rfl (WL.nil (W.ret (bodyQ.r1 (v := .bool _) results107 rfl ?_))))
       exact ⟨.inl ⟨rfl, by omega, by omega, by omega, by omega, by omega⟩, h⟩
      refine WL.val (run_pickT rfl) rfl rfl (WL.val run_assign rfl rfl (WL.nil (W.ret (bodyQ.r1 (v := .bool _) results107 rfl ?_))))
      exact ⟨.inr ⟨rfl, by omega⟩, h⟩
     refine WL.val (run_pickT rfl) rfl rfl (WL.val run_move rfl rfl (WL.skip rfl rfl (WL.skip rfl rfl (WL.skip rfl rfl (WL.skip rfl rfl (WL.skip rfl rfl (WL.skip rfl rfl ?_)))))))
     refine WL.skip rfl rfl (WL.skip rfl rfl (WL.val (run_pickF rfl) rfl rfl (WL.val run_assign rfl rfl (WL.nil (W.ret (bodyQ.r1 (v := .bool _) results107 rfl ?_))))))
     exact ⟨.inr ⟨rfl, by omega⟩, h⟩
    refine WL.val (run_pickT rfl) rfl rfl (WL.val run_move rfl rfl (WL.skip rfl rfl (WL.skip rfl rfl (WL.skip rfl rfl (WL.skip rfl rfl (WL.skip rfl rfl (WL.skip rfl rfl ?_)))))))
    refine WL.val (run_pickF rfl) rfl rfl (WL.val run_move rfl rfl (WL.skip rfl rfl (WL.skip rfl rfl (WL.skip rfl rfl (WL.skip rfl rfl (WL.skip rfl rfl (WL.skip rfl rfl ?_)))))))
    refine WL.skip rfl rfl (WL.skip rfl rfl (WL.val (run_pickF rfl) rfl rfl (WL.val run_assign rfl rfl (WL.nil (W.ret (bodyQ.r1 (v := .bool _) results107 rfl ?_))))))
    exact ⟨.inr ⟨rfl, by omega⟩, h⟩
   refine WL.val (run_pickT rfl) rfl rfl (WL.val run_move rfl rfl (WL.skip rfl rfl (WL.skip rfl rfl (WL.val (run_pickF rfl) rfl rfl (WL.val run_move rfl rfl (WL.skip rfl rfl (WL.skip rfl rfl ?_)))))))
   refine WL.skip rfl rfl (WL.skip rfl rfl (WL.skip rfl rfl (WL.skip rfl rfl (WL.val (run_pickF rfl) rfl rfl (WL.val run_move rfl rfl (WL.skip rfl rfl (WL.skip rfl rfl ?_)))))))
   refine WL.skip rfl rfl (WL.skip rfl rfl (WL.skip rfl rfl (WL.skip rfl rfl (WL.skip rfl rfl (WL.skip rfl rfl (WL.val (run_pickF rfl) rfl rfl (WL.val run_assign rfl rfl ?_)))))))
   refine WL.nil (W.ret (bodyQ.r1 (v := .bool _) results107 rfl ?_))
   exact ⟨.inr ⟨rfl, by omega⟩, h⟩
  refine WL.val run_move rfl rfl (WL.skip rfl rfl (WL.skip rfl rfl (WL.val (run_pickF rfl) rfl rfl (WL.val run_move rfl rfl (WL.skip rfl rfl (WL.skip rfl rfl (WL.val (run_pickF rfl) rfl rfl ?_)))))))
  refine WL.val run_move rfl rfl (WL.skip rfl rfl (WL.skip rfl rfl (WL.skip rfl rfl (WL.skip rfl rfl (WL.skip rfl rfl (WL.skip rfl rfl (WL.val (run_pickF rfl) rfl rfl ?_)))))))
  refine WL.val run_move rfl rfl (WL.skip rfl rfl (WL.skip rfl rfl (WL.skip rfl rfl (WL.skip rfl rfl (WL.skip rfl rfl (WL.skip rfl rfl (WL.skip rfl rfl ?_)))))))
  refine WL.skip rfl rfl (WL.val (run_pickF rfl) rfl rfl (WL.val run_assign rfl rfl (WL.nil (W.ret (bodyQ.r1 (v := .bool _) results107 rfl ?_)))))
  exact ⟨.inr ⟨rfl, by omega⟩, h⟩
theorem part_ok {b gd od cd N at_ n : Nat} {c0 : Value} {cs : List Value} {e : Nat} {fr : Nat × Nat} (hN : N ≤ 1024) (hb : at_ + n ≤ N) (hc : 8 * N ≤ cd) (h : On W0 L w) [HasBlk L b (c0 :: .slice (some ⟨gd, od, none⟩) (8 * N) cd :: cs) e fr] :
    Calls Tryz.prog 54 #[.pointer (some ⟨b, 0, none⟩), .int .i64 (at_ : Int), .int .i64 (n : Int)] w (Ret fun v w' => v = sliced (some ⟨gd, od, none⟩) (at_ * 8) ((at_ + n) * 8) cd 1 ∧ On W0 L w') := by
  refine enter func54 rfl ntmps54 rfl (W.seq (W.region (WL.val run_assign rfl rfl (WL.nil (W.seq (W.region (WL.val run_move rfl rfl ?_)))))))
  refine WL.val (run_nilCheck rfl) rfl rfl (WL.val (run_fieldAddr 1 underlying105 rfl sizeOf22 rfl rfl) rfl rfl (WL.val (run_load1 isAgg22 rfl (h.cellB rfl)) rfl rfl (WL.val run_move rfl rfl (WL.val (run_mulN (m := at_) (n := 8) rfl rfl (by omega)) rfl rfl (WL.val run_move rfl rfl (WL.val run_move rfl rfl (WL.val (run_addN (m := at_) (n := n) rfl rfl (by omega)) rfl rfl ?_)))))))
  refine WL.val (run_mulN (m := at_ + n) (n := 8) rfl rfl (by omega)) rfl rfl (WL.val (run_cutLH underlying22 sizeOf5 rfl rfl rfl  (by omega) (by omega)) rfl rfl (WL.val run_assign rfl rfl (WL.nil (W.ret (bodyQ.r1 (v := .slice _ _ _) results54 rfl ?_)))))
  exact ⟨rfl, h⟩
theorem unmap_ok {b : Nat} {s : Sp} {at_ n : Int} (h : On W0 (SpP 105 b s :: L) w) : Calls Tryz.prog 110 #[.pointer (some ⟨b, 0, none⟩), .int .i64 at_, .int .i64 n] w (Ret fun v w' =>
    (∃ p q : Nat, at_ = p ∧ n = q ∧ p + q ≤ s.N ∧ q ≤ 32 ∧ v = .int .i64 0 ∧ On W0 (SpP 105 b (unmapS s p q) :: L) w') ∨ (¬ inS s at_ n ∧ v = .int .i64 1 ∧ On W0 (SpP 105 b s :: L) w')) := by
  refine enter func110 rfl ntmps110 rfl ?_
  have ob_ := openS h
  obtain ⟨gd, od, cd, am, cm, hw, h⟩ := ob_
  have hwf := hw
  obtain ⟨hw1, hw2, hw3, hw4⟩ := hw
  have ob_ := Own.bounds h.p1
  obtain ⟨hdc, hdm⟩ := ob_
  refine W.seq (W.region (WL.val run_assign rfl rfl (WL.nil (W.seq (W.seq (W.region (WL.val run_move rfl rfl ?_)))))))
  refine WL.val run_move rfl rfl (WL.val run_move rfl rfl (WL.eff (eff_call call107 (in_s hw3 h)) rfl rfl ?_))
  rintro _ w ⟨hv, h⟩
  rcases hv with ⟨rfl, hi⟩ | ⟨rfl, hi⟩
  ·
   refine WL.val (run_not rfl) rfl rfl (WL.nil (W.condF rfl (W.skip (W.seq ?_))))
   have ob_ := Int.eq_ofNat_of_zero_le (show 0 ≤ at_ by omega)
   obtain ⟨p, rfl⟩ := ob_
   have ob_ := Int.eq_ofNat_of_zero_le (show 0 ≤ n by omega)
   obtain ⟨q, rfl⟩ := ob_
   have ob_ := sliced_part (b := gd) (o := od) (show p * 8 ≤ (p + q) * 8 by omega) (show (p + q) * 8 ≤ cd by omega)
   obtain ⟨lo, hlo, hlo2⟩ := ob_
   refine W.region (WL.val run_move rfl rfl (WL.val run_move rfl rfl (WL.val run_move rfl rfl (WL.eff (eff_call call54 (part_ok (at_ := p) (n := q) hw3 (by omega) hdc h)) rfl rfl ?_))))
   rintro _ w ⟨rfl, h⟩
   refine WL.eff (eff_clearIn (lo := lo) (m := (p + q) * 8 - p * 8) h.p1 hlo rfl underlying22 zeroValue5 rfl rfl (by omega)) rfl rfl ?_
   rintro _ w h
   have hov : splice (bytesV s.d) lo (List.replicate ((p + q) * 8 - p * 8) (.int .u8 0)) = bytesV (unmapS s p q).d := by
     rw [show List.replicate ((p + q) * 8 - p * 8) (Value.int .u8 0) = bytesV (List.replicate (8 * q) 0) by simp [bytesV, byteV]; omega, bytesV_over]
     rcases hlo2 with rfl | ⟨h0, rfl⟩
     · rw [Nat.mul_comm]; rfl
     · have ob_ : q = 0 := by omega
       obtain rfl := ob_
       show bytesV (over s.d 0 []) = bytesV (over s.d (8 * p) [])
       rw [over_nil, over_nil]
   rw [hov] at h
   refine WL.nil (W.seq (W.region (WL.val run_move rfl rfl (WL.val (run_nilCheck rfl) rfl rfl (WL.val (run_fieldAddr 2 underlying105 rfl sizeOf103 rfl rfl) rfl rfl (WL.val (run_load1 isAgg103 rfl (h.cellB rfl)) rfl rfl (WL.val run_move rfl rfl ?_)))))))
   refine WL.val run_move rfl rfl (WL.eff (eff_call call142 (bunset_ok h.p2 (by omega))) rfl rfl ?_)
   rintro _ w ⟨_, h⟩
   refine WL.nil (W.seq (W.region (WL.val run_assign rfl rfl (WL.nil (W.ret (bodyQ.r1 (v := .int .i64 _) results110 rfl ?_))))))
   refine .inl ⟨p, q, rfl, rfl, by omega, by omega, rfl, ?_⟩
   have hwf2 := unmapS_wf (at_ := p) (n := q) hwf (by omega)
   have hml : (unmapS s p q).m.length = s.m.length := turned_length ..
   refine closeS (cd := cd) (cm := cm) (gd := gd) (od := od) (am := am) hwf2 ?_
   rw [hml]
   show On W0 (blk b [.int .i64 (s.N : Int), .slice (some ⟨gd, od, none⟩) (8 * s.N) cd, .slice am s.m.length cm] 105 :: Own 1 (.slice (some ⟨gd, od, none⟩) (8 * s.N) cd) (8 * s.N) (bytesV (unmapS s p q).d) :: Own 1 (.slice am s.m.length cm) s.m.length (bytesV (turned s.m p q false)) :: L) w
   exact h.to
  refine WL.val (run_not rfl) rfl rfl (WL.nil (W.condT rfl (W.seq (W.region (WL.val run_assign rfl rfl (WL.nil (W.ret ?_)))))))
  refine bodyQ.r1 (v := .int .i64 _) results110 rfl ?_
  exact .inr ⟨hi, rfl, closeS (cd := cd) (cm := cm) (gd := gd) (od := od) (am := am) hwf h⟩
theorem write_ok {b : Nat} {s : Sp} {at_ : Int} {ax : Option Addr} {cx : Nat} {bs : List UInt8} (h : On W0 (SpP 105 b s :: L) w) (C : Gives L (Bytes (.slice ax bs.length cx) bs)) : Calls Tryz.prog 109 #[.pointer (some ⟨b, 0, none⟩), .int .i64 at_, .slice ax bs.length cx] w (Ret fun v w' =>
    (∃ p : Nat, at_ = p ∧ bs.length % 8 = 0 ∧ p + bs.length / 8 ≤ s.N ∧ bs.length / 8 ≤ 32 ∧ v = .int .i64 0 ∧ On W0 (SpP 105 b (writeS s p bs) :: L) w') ∨ (¬ (bs.length % 8 = 0 ∧ inS s at_ ((bs.length / 8 : Nat) : Int)) ∧ v = .int .i64 1 ∧ On W0 (SpP 105 b s :: L) w')) := by
  refine enter func109 rfl ntmps109 rfl ?_
  have ob_ := openS h
  obtain ⟨gd, od, cd, am, cm, hw, h⟩ := ob_
  have hwf := hw
  obtain ⟨hw1, hw2, hw3, hw4⟩ := hw
  have ob_ := Own.bounds h.p1
  obtain ⟨hdc, hdm⟩ := ob_
  have ob_ := (h.readsTo C).bounds
  obtain ⟨hxc, hxm⟩ := ob_
  have hmx := maxLen_eq
  refine W.seq (W.region (WL.val run_assign rfl rfl (WL.nil (W.seq (W.region (WL.val run_move rfl rfl (WL.val (run_lenSlice underlying22 rfl) rfl rfl ?_)))))))
  refine WL.val (run_quo rfl rfl (by omega) (by omega) (by omega)) rfl rfl (WL.val run_assign rfl rfl (WL.nil (W.seq (W.seq (W.region (WL.val run_move rfl rfl (WL.val (run_lenSlice underlying22 rfl) rfl rfl ?_)))))))
  refine WL.val (run_rem rfl rfl (by omega) (by omega)) rfl rfl ?_
  refine WL.dec (run_neq rfl rfl) rfl rfl (fun c14 => ?_) (fun c14 => ?_)
  ·
   refine WL.val run_move rfl rfl (WL.skip rfl rfl (WL.skip rfl rfl (WL.skip rfl rfl (WL.skip rfl rfl (WL.skip rfl rfl (WL.val (run_pickT rfl) rfl rfl (WL.nil ?_)))))))
   refine W.condT rfl (W.seq (W.region (WL.val run_assign rfl rfl (WL.nil (W.ret (bodyQ.r1 (v := .int .i64 _) results109 rfl ?_))))))
   exact .inr ⟨by omega, rfl, closeS (cd := cd) (cm := cm) (gd := gd) (od := od) (am := am) hwf h⟩
  refine WL.val run_move rfl rfl (WL.val run_move rfl rfl (WL.val run_move rfl rfl (WL.val run_move rfl rfl (WL.eff (eff_call call107 (in_s (n := ((bs.length / 8 : Nat) : Int)) hw3 h)) rfl rfl ?_))))
  rintro _ w ⟨hv, h⟩
  rcases hv with ⟨rfl, hi⟩ | ⟨rfl, hi⟩
  ·
   refine WL.val (run_not rfl) rfl rfl (WL.val (run_pickF rfl) rfl rfl (WL.nil (W.condF rfl (W.skip (W.seq ?_)))))
   have ob_ := Int.eq_ofNat_of_zero_le (show 0 ≤ at_ by omega)
   obtain ⟨p, rfl⟩ := ob_
   have ob_ : ∃ q, bs.length = 8 * q := ⟨bs.length / 8, by omega⟩
   obtain ⟨q, hqq⟩ := ob_
   have ob_ := sliced_part (b := gd) (o := od) (show p * 8 ≤ (p + bs.length / 8) * 8 by omega) (show (p + bs.length / 8) * 8 ≤ cd by omega)
   obtain ⟨lo, hlo, hlo2⟩ := ob_
   refine W.region (WL.val run_move rfl rfl (WL.val run_move rfl rfl (WL.val run_move rfl rfl (WL.eff (eff_call call54 (part_ok (at_ := p) (n := bs.length / 8) hw3 (by omega) hdc h)) rfl rfl ?_))))
   rintro _ w ⟨rfl, h⟩
   refine WL.val run_move rfl rfl (WL.eff (eff_copyIn (lo := lo) (m := (p + bs.length / 8) * 8 - p * 8) h.p1 hlo rfl (h.readsTo C) rfl underlying22 sizeOf5 (by omega) bytes_one) rfl rfl ?_)
   rintro _ w ⟨_, h⟩
   have hov : splice (bytesV s.d) lo ((bytesV bs).take (min bs.length ((p + bs.length / 8) * 8 - p * 8))) = bytesV (writeS s p bs).d := by
     rw [List.take_of_length_le (by simp; omega), bytesV_over]
     rcases hlo2 with rfl | ⟨h0, rfl⟩
     · rw [Nat.mul_comm]; rfl
     · have ob_ : bs = [] := List.eq_nil_of_length_eq_zero (by omega)
       obtain rfl := ob_
       show bytesV (over s.d 0 []) = bytesV (over s.d (8 * p) [])
       rw [over_nil, over_nil]
   rw [hov] at h
   refine WL.nil (W.seq (W.region (WL.val run_move rfl rfl (WL.val (run_nilCheck rfl) rfl rfl (WL.val (run_fieldAddr 2 underlying105 rfl sizeOf103 rfl rfl) rfl rfl (WL.val (run_load1 isAgg103 rfl (h.cellB rfl)) rfl rfl (WL.val run_move rfl rfl ?_)))))))
   refine WL.val run_move rfl rfl (WL.eff (eff_call call141 (bset_ok (k := ((bs.length / 8 : Nat) : Int)) h.p2 (by omega))) rfl rfl ?_)
   rintro _ w ⟨_, h⟩
   refine WL.nil (W.seq (W.region (WL.val run_assign rfl rfl (WL.nil (W.ret (bodyQ.r1 (v := .int .i64 _) results109 rfl ?_))))))
   refine .inl ⟨p, rfl, by omega, by omega, by omega, rfl, ?_⟩
   have hwf2 := writeS_wf (at_ := p) (bs := bs) hwf (by omega)
   have hml : (writeS s p bs).m.length = s.m.length := turned_length ..
   refine closeS (cd := cd) (cm := cm) (gd := gd) (od := od) (am := am) hwf2 ?_
   rw [hml]
   show On W0 (blk b [.int .i64 (s.N : Int), .slice (some ⟨gd, od, none⟩) (8 * s.N) cd, .slice am s.m.length cm] 105 :: Own 1 (.slice (some ⟨gd, od, none⟩) (8 * s.N) cd) (8 * s.N) (bytesV (writeS s p bs).d) :: Own 1 (.slice am s.m.length cm) s.m.length (bytesV (turned s.m p ((bs.length / 8 : Nat) : Int) true)) :: L) w
   exact h.to
  refine WL.val (run_not rfl) rfl rfl (WL.val (run_pickF rfl) rfl rfl (WL.nil (W.condT rfl (W.seq (W.region (WL.val run_assign rfl rfl (WL.nil ?_)))))))
  refine W.ret (bodyQ.r1 (v := .int .i64 _) results109 rfl ?_)
  exact .inr ⟨fun hh => hi hh.2, rfl, closeS (cd := cd) (cm := cm) (gd := gd) (od := od) (am := am) hwf h⟩
theorem read_ok {b : Nat} {s : Sp} {at_ n : Int} (h : On W0 (SpP 105 b s :: L) w) : Calls Tryz.prog 108 #[.pointer (some ⟨b, 0, none⟩), .int .i64 at_, .int .i64 n] w (Ret fun v w' =>
    (∃ p q : Nat, at_ = p ∧ n = q ∧ p + q ≤ s.N ∧ q ≤ 32 ∧ ∃ a, v = .tuple #[.slice a (partS s p q).length (partS s p q).length, .int .i64 0] ∧ On W0 (OwnB (.slice a (partS s p q).length (partS s p q).length) (partS s p q) :: SpP 105 b s :: L) w') ∨ (¬ inS s at_ n ∧ v = .tuple #[.slice none 0 0, .int .i64 1] ∧ On W0 (SpP 105 b s :: L) w')) := by
  refine enter func108 rfl ntmps108 rfl ?_
  have ob_ := openS h
  obtain ⟨gd, od, cd, am, cm, hw, h⟩ := ob_
  have hwf := hw
  obtain ⟨hw1, hw2, hw3, hw4⟩ := hw
  have ob_ := Own.bounds h.p1
  obtain ⟨hdc, hdm⟩ := ob_
  refine W.seq (W.region (WL.val run_assign rfl rfl (WL.val run_assign rfl rfl (WL.nil (W.seq (W.seq (W.region ?_)))))))
  refine WL.val run_move rfl rfl (WL.val run_move rfl rfl (WL.val run_move rfl rfl (WL.eff (eff_call call107 (in_s hw3 h)) rfl rfl ?_)))
  rintro _ w ⟨hv, h⟩
  rcases hv with ⟨rfl, hi⟩ | ⟨rfl, hi⟩
  ·
   refine WL.val (run_not rfl) rfl rfl (WL.nil (W.condF rfl (W.skip (W.seq ?_))))
   have ob_ := Int.eq_ofNat_of_zero_le (show 0 ≤ at_ by omega)
   obtain ⟨p, rfl⟩ := ob_
   have ob_ := Int.eq_ofNat_of_zero_le (show 0 ≤ n by omega)
   obtain ⟨q, rfl⟩ := ob_
   have ob_ := sliced_part (b := gd) (o := od) (show p * 8 ≤ (p + q) * 8 by omega) (show (p + q) * 8 ≤ cd by omega)
   obtain ⟨lo, hlo, hlo2⟩ := ob_
   have hpl : (partS s p q).length = (p + q) * 8 - p * 8 := by unfold partS; rw [List.length_take, List.length_drop]; omega
   refine W.region (WL.val run_move rfl rfl (WL.val run_move rfl rfl (WL.val run_move rfl rfl (WL.eff (eff_call call54 (part_ok (at_ := p) (n := q) hw3 (by omega) hdc h)) rfl rfl ?_))))
   rintro _ w ⟨hv, h⟩
   rw [hlo, ← hpl] at hv
   subst hv
   have CP : ∀ L' : List HProp, Gives L' (Cells 1 (.slice (some ⟨gd, od, none⟩) (8 * s.N) cd) (8 * s.N) (bytesV s.d)) → Gives L' (Bytes (.slice (some ⟨gd, od + lo, none⟩) (partS s p q).length (cd - p * 8)) (partS s p q)) := fun L' gg hh H => by
     have c1 := (gg hh H).cut (l := p * 8) (h := (p + q) * 8) (m := cd) (by omega) (by omega) (by omega) (by omega)
     rw [hlo, ← hpl] at c1
     have e1 : ((bytesV s.d).drop (p * 8 * 1)).take ((partS s p q).length * 1) = bytesV (partS s p q) := by
       rw [hpl, Nat.mul_one, Nat.mul_one]
       unfold partS bytesV
       rw [List.map_take, List.map_drop, Nat.mul_comm p 8, show (p + q) * 8 - 8 * p = 8 * q by omega]
     rw [e1] at c1
     exact c1
   refine WL.eff (eff_call call57 (clone_bytes h (CP _ (Gives.ownO (v := .slice (some ⟨gd, od, none⟩) (8 * s.N) cd))) (by omega))) rfl rfl ?_
   rintro _ w ⟨a, c, rfl, h⟩
   refine WL.eff (eff_call call51 (clip_bytes h)) rfl rfl ?_
   rintro _ w ⟨rfl, h⟩
   refine WL.val run_assign rfl rfl (WL.val run_assign rfl rfl (WL.nil (W.ret (bodyQ.r2 (v1 := .slice _ _ _) (v2 := .int .i64 _) results108 rfl rfl ?_))))
   exact .inl ⟨p, q, rfl, rfl, by omega, by omega, a, rfl, (closeS (cd := cd) (cm := cm) (gd := gd) (od := od) (am := am) hwf h.p3.p3.p3).p1⟩
  refine WL.val (run_not rfl) rfl rfl (WL.nil (W.condT rfl (W.seq (W.region (WL.val run_assign rfl rfl (WL.val run_assign rfl rfl (WL.nil ?_)))))))
  refine W.ret (bodyQ.r2 (v1 := .slice _ _ _) (v2 := .int .i64 _) results108 rfl rfl ?_)
  exact .inr ⟨hi, rfl, closeS (cd := cd) (cm := cm) (gd := gd) (od := od) (am := am) hwf h⟩
theorem blocks_ok {b : Nat} {s : Sp} (h : On W0 (SpP 105 b s :: L) w) : Calls Tryz.prog 22 #[.pointer (some ⟨b, 0, none⟩)] w (Ret fun v w' => v = .int .i64 (s.N : Int) ∧ On W0 (SpP 105 b s :: L) w') := by
  refine enter func22 rfl ntmps22 rfl ?_
  have ob_ := openS h
  obtain ⟨gd, od, cd, am, cm, hw, h⟩ := ob_
  have hwf := hw
  obtain ⟨hw1, hw2, hw3, hw4⟩ := hw
  have ob_ := Own.bounds h.p1
  obtain ⟨hdc, hdm⟩ := ob_
  refine W.seq (W.region (WL.val run_assign rfl rfl (WL.nil (W.seq (W.region (WL.val run_move rfl rfl (WL.val (run_nilCheck rfl) rfl rfl ?_)))))))
  refine WL.val (run_fieldAddr 0 underlying105 rfl sizeOf3 rfl rfl) rfl rfl (WL.val (run_load1 isAgg3 rfl (h.cellB rfl)) rfl rfl (WL.val run_assign rfl rfl (WL.nil (W.ret (bodyQ.r1 (v := .int .i64 _) results22 rfl ?_)))))
  exact ⟨rfl, closeS (cd := cd) (cm := cm) (gd := gd) (od := od) (am := am) hwf h⟩
theorem snew_ok {n : Int} (h : On W0 L w) : Calls Tryz.prog 32 #[.int .i64 n] w (Ret fun v w' => (∃ N : Nat, n = N ∧ 1 ≤ N ∧ N ≤ 1024 ∧ ∃ b, v = .tuple #[.pointer (some ⟨b, 0, none⟩), .int .i64 0] ∧ On W0 (SpP 105 b (newS N) :: L) w') ∨ (¬ (1 ≤ n ∧ n ≤ 1024) ∧ v = .tuple #[.pointer none, .int .i64 1] ∧ On W0 L w')) := by
  refine enter func32 rfl ntmps32 rfl ?_
  have hmx := maxLen_eq
  refine W.seq (W.region (WL.val run_assign rfl rfl (WL.val run_assign rfl rfl (WL.nil (W.seq (W.seq (W.region ?_)))))))
  refine WL.val run_move rfl rfl ?_
  refine WL.dec (run_lss rfl rfl) rfl rfl (fun c5 => ?_) (fun c5 => ?_)
  ·
   refine WL.val run_move rfl rfl (WL.skip rfl rfl (WL.skip rfl rfl (WL.val (run_pickT rfl) rfl rfl (WL.nil (W.condT rfl (W.seq (W.region ?_)))))))
   refine WL.val run_assign rfl rfl (WL.val run_assign rfl rfl (WL.nil (W.ret (bodyQ.r2 (v1 := .pointer _) (v2 := .int .i64 _) results32 rfl rfl ?_))))
   exact .inr ⟨by omega, rfl, h⟩
  refine WL.val run_move rfl rfl (WL.val run_move rfl rfl (WL.val (run_gtr rfl rfl) rfl rfl (WL.val (run_pickF rfl) rfl rfl (WL.nil ?_))))
  refine W.condIf rfl (fun c2 => ?_) (fun c2 => ?_)
  ·
   refine W.seq (W.region (WL.val run_assign rfl rfl (WL.val run_assign rfl rfl (WL.nil (W.ret (bodyQ.r2 (v1 := .pointer _) (v2 := .int .i64 _) results32 rfl rfl ?_))))))
   exact .inr ⟨by omega, rfl, h⟩
  refine W.skip (W.seq ?_)
  have ob_ := Int.eq_ofNat_of_zero_le (show 0 ≤ n by omega)
  obtain ⟨N, rfl⟩ := ob_
  have hnb : newB (N : Int) = List.replicate ((N + 7) / 8) 0 := by unfold newB; rw [if_neg (by omega)]; simp
  refine W.draw Tryz.follows h (fun w h => ?_)
  refine WT.pure 0 rfl (by kernel_rfl) (fun w' => run_move) rfl rfl (WT.pure 1 rfl (by kernel_rfl) (fun w' => run_move) rfl rfl (WT.pure 2 rfl (by kernel_rfl) (fun w' => (run_mul rfl rfl (by omega) (by omega))) rfl rfl (WT.pure 4 rfl (by kernel_rfl) (fun w' => run_move) rfl rfl ?_)))
  -- SEVERAL MAY COME UP: [(3, 'make []uint8 t12 t12'), (5, ' gemel/bits.New(t14)')]
  refine WT.two 3 5 (by kernel_rfl) ?_ ?_
  ·
   refine WT.opOf 3 [] rfl (by kernel_rfl) (eff_make (n := 8 * N) (bytes := 1) h (by show Value.int .i64 ((N : Int) * 8) = _; congr 1; omega) (by show Value.int .i64 ((N : Int) * 8) = _; congr 1; omega) underlying22 rfl rfl rfl rfl rfl (by omega) (by omega)) rfl rfl ?_
   rintro _ w ⟨b13, rfl, h⟩
   refine ⟨trivial, ?_⟩
   refine WT.eff 5 [] rfl (by kernel_rfl) (by kernel_rfl) (eff_call call78 (bnew_ok (n := (N : Int)) h)) rfl rfl ?_
   rintro _ w ⟨am, cm, hv, h⟩
   rw [hnb] at hv h
   subst hv
   refine ⟨trivial, ?_⟩
   refine WT.pure 6 rfl (by kernel_rfl) (fun w' => (run_buildS (pl := [(0, 1), (1, 1), (2, 1)]) (out := [.int .i64 _, .slice _ _ _, .slice _ _ _]) underlying105 zeroValue105 (fun w => by kernel_rfl) rfl (⟨⟨_, _, rfl, rfl, by decide⟩, ⟨⟨_, _, rfl, rfl, by decide⟩, ⟨⟨_, _, rfl, rfl, by decide⟩, trivial⟩⟩⟩) rfl)) rfl rfl (WT.eff 7 [] rfl (by kernel_rfl) (by kernel_rfl) (eff_box (v := .agg _) (l := [.int .i64 _, .slice _ _ _, .slice _ _ _]) h rfl rfl) rfl rfl ?_)
   rintro _ w ⟨b17, rfl, h⟩
   refine ⟨trivial, ?_⟩
   refine WT.pure 8 rfl (by kernel_rfl) (fun w' => run_assign) rfl rfl (WT.pure 9 rfl (by kernel_rfl) (fun w' => run_assign) rfl rfl (WT.done (by kernel_rfl) (W.ret (bodyQ.r2 (v1 := .pointer _) (v2 := .int .i64 _) results32 rfl rfl ?_))))
   refine .inl ⟨N, rfl, by omega, by omega, b17, rfl, closeS (gd := b13) (od := 0) (cd := 8 * N) (am := am) (cm := cm) (newS_wf (by omega) (by omega)) ?_⟩
   have e1 : bytesV (List.replicate (8 * N) 0) = List.replicate (8 * N) (.int .u8 0) := by simp [bytesV, byteV]
   show On W0 (blk b17 [.int .i64 (N : Int), .slice (some ⟨b13, 0, none⟩) (8 * N) (8 * N), .slice am (List.replicate ((N + 7) / 8) (0 : UInt8)).length cm] 105 :: Own 1 (.slice (some ⟨b13, 0, none⟩) (8 * N) (8 * N)) (8 * N) (bytesV (List.replicate (8 * N) 0)) :: Own 1 (.slice am (List.replicate ((N + 7) / 8) (0 : UInt8)).length cm) (List.replicate ((N + 7) / 8) (0 : UInt8)).length (bytesV (List.replicate ((N + 7) / 8) 0)) :: L) w
   rw [e1]
   exact h.to
  refine WT.opOf 5 [] rfl (by kernel_rfl) (eff_call call78 (bnew_ok (n := (N : Int)) h)) rfl rfl ?_
  rintro _ w ⟨am, cm, hv, h⟩
  rw [hnb] at hv h
  subst hv
  refine ⟨trivial, ?_⟩
  refine WT.eff 3 [] rfl (by kernel_rfl) (by kernel_rfl) (eff_make (n := 8 * N) (bytes := 1) h (by show Value.int .i64 ((N : Int) * 8) = _; congr 1; omega) (by show Value.int .i64 ((N : Int) * 8) = _; congr 1; omega) underlying22 rfl rfl rfl rfl rfl (by omega) (by omega)) rfl rfl ?_
  rintro _ w ⟨b13, rfl, h⟩
  refine ⟨trivial, ?_⟩
  refine WT.pure 6 rfl (by kernel_rfl) (fun w' => (run_buildS (pl := [(0, 1), (1, 1), (2, 1)]) (out := [.int .i64 _, .slice _ _ _, .slice _ _ _]) underlying105 zeroValue105 (fun w => by kernel_rfl) rfl (⟨⟨_, _, rfl, rfl, by decide⟩, ⟨⟨_, _, rfl, rfl, by decide⟩, ⟨⟨_, _, rfl, rfl, by decide⟩, trivial⟩⟩⟩) rfl)) rfl rfl (WT.eff 7 [] rfl (by kernel_rfl) (by kernel_rfl) (eff_box (v := .agg _) (l := [.int .i64 _, .slice _ _ _, .slice _ _ _]) h rfl rfl) rfl rfl ?_)
  rintro _ w ⟨b17, rfl, h⟩
  refine ⟨trivial, ?_⟩
  refine WT.pure 8 rfl (by kernel_rfl) (fun w' => run_assign) rfl rfl (WT.pure 9 rfl (by kernel_rfl) (fun w' => run_assign) rfl rfl (WT.done (by kernel_rfl) (W.ret (bodyQ.r2 (v1 := .pointer _) (v2 := .int .i64 _) results32 rfl rfl ?_))))
  refine .inl ⟨N, rfl, by omega, by omega, b17, rfl, closeS (gd := b13) (od := 0) (cd := 8 * N) (am := am) (cm := cm) (newS_wf (by omega) (by omega)) ?_⟩
  have e1 : bytesV (List.replicate (8 * N) 0) = List.replicate (8 * N) (.int .u8 0) := by simp [bytesV, byteV]
  show On W0 (blk b17 [.int .i64 (N : Int), .slice (some ⟨b13, 0, none⟩) (8 * N) (8 * N), .slice am (List.replicate ((N + 7) / 8) (0 : UInt8)).length cm] 105 :: Own 1 (.slice (some ⟨b13, 0, none⟩) (8 * N) (8 * N)) (8 * N) (bytesV (List.replicate (8 * N) 0)) :: Own 1 (.slice am (List.replicate ((N + 7) / 8) (0 : UInt8)).length cm) (List.replicate ((N + 7) / 8) (0 : UInt8)).length (bytesV (List.replicate ((N + 7) / 8) 0)) :: L) w
  rw [e1]
  exact h.to
end Go.Proofs.YtjbgiingimhnnaaGreat
/-
  Plain laws of blocks: what is read where something was written. No program is named here.
-/
namespace Go.Sl.SpM
open Go Go.Sl Go.Sl.BitM
set_option linter.unusedVariables false
theorem partS_length {s : Sp} {p q : Nat} (hw : wfS s) (h : p + q ≤ s.N) : (partS s p q).length = 8 * q := by
  obtain ⟨h1, _⟩ := hw
  unfold partS; rw [List.length_take, List.length_drop]; omega
/-- The first place at which two rows of bytes differ, if there is one. -/
theorem prefix_eq {xs ys : List UInt8} {k : Nat} (h : ∀ j, j < k → xs[j]? = ys[j]?) (hx : xs.length = k) : xs = ys.take k := by
  apply List.ext_getElem?
  intro j
  rw [List.getElem?_take]
  by_cases hj : j < k
  · rw [if_pos hj, h j hj]
  · rw [if_neg hj, List.getElem?_eq_none (by omega)]
end Go.Sl.SpM
/-
  A compare and write of blocks. Lines of walks printed by a program of the prover's.
-/
namespace Go.Proofs.YtjbgiingimhnnaaGreat
open Go.Proofs.Tryz
open Go Go.Sl Go.Sl.BitM Go.Sl.SpM
set_option linter.unusedVariables false
set_option linter.unusedSimpArgs false
set_option maxHeartbeats 4000000
set_option maxRecDepth 8000
variable {W0 w : World} {L F : List HProp}
theorem cut_gives {a : Option Addr} {c : Nat} {bs : List UInt8} {k : Nat} (C : Gives L (Bytes (.slice a bs.length c) bs)) (hk : k ≤ bs.length) (hc : bs.length ≤ c) :
    ∃ a' c', sliced a k bs.length c 1 = .slice a' (bs.drop k).length c' ∧ Gives L (Bytes (.slice a' (bs.drop k).length c') (bs.drop k)) := by
  refine ⟨if c = k then a else a.map (·.add (k * 1)), c - k, by rw [List.length_drop]; rfl, fun h H => ?_⟩
  have c1 := (C h H).cut (l := k) (h := bs.length) (m := c) hk (Nat.le_refl _) hc (Nat.le_refl _)
  have e1 : ((bytesV bs).drop (k * 1)).take ((bs.length - k) * 1) = bytesV (bs.drop k) := by
    rw [Nat.mul_one, Nat.mul_one, List.take_of_length_le (by simp)]
    simp [bytesV, List.map_drop]
  rw [e1] at c1
  have e2 : sliced a k bs.length c 1 = .slice (if c = k then a else a.map (·.add (k * 1))) (bs.drop k).length (c - k) := by rw [List.length_drop]; rfl
  rw [e2] at c1
  rw [← List.length_drop] at c1
  exact c1
theorem compare_ok {b : Nat} {s : Sp} {at_ : Int} {ax : Option Addr} {cx : Nat} {bs : List UInt8} (h : On W0 (SpP 105 b s :: L) w) (C : Gives L (Bytes (.slice ax bs.length cx) bs)) : Calls Tryz.prog 111 #[.pointer (some ⟨b, 0, none⟩), .int .i64 at_, .slice ax bs.length cx] w (Ret fun v w' =>
    (∃ p q : Nat, at_ = p ∧ bs.length = 16 * q ∧ p + q ≤ s.N ∧ q ≤ 32 ∧
      ((partS s p q = bs.take (8 * q) ∧ v = .tuple #[.int .i64 (-1), .int .i64 0] ∧ On W0 (SpP 105 b (writeS s p (bs.drop (8 * q))) :: L) w') ∨
       (∃ i : Nat, i < 8 * q ∧ (partS s p q)[i]? ≠ bs[i]? ∧ (∀ j, j < i → (partS s p q)[j]? = bs[j]?) ∧ v = .tuple #[.int .i64 (i : Int), .int .i64 0] ∧ On W0 (SpP 105 b s :: L) w'))) ∨
    (¬ (bs.length % 16 = 0 ∧ inS s at_ ((bs.length / 8 / 2 : Nat) : Int)) ∧ v = .tuple #[.int .i64 0, .int .i64 1] ∧ On W0 (SpP 105 b s :: L) w')) := by
  refine enter func111 rfl ntmps111 rfl ?_
  have ob_ := openS h
  obtain ⟨gd, od, cd, am, cm, hw, h⟩ := ob_
  have hwf := hw
  obtain ⟨hw1, hw2, hw3, hw4⟩ := hw
  have ob_ := Own.bounds h.p1
  obtain ⟨hdc, hdm⟩ := ob_
  have ob_ := (h.readsTo C).bounds
  obtain ⟨hxc, hxm⟩ := ob_
  have hmx := maxLen_eq
  refine W.seq (W.region (WL.val run_assign rfl rfl (WL.val run_assign rfl rfl (WL.nil (W.seq (W.region (WL.val run_move rfl rfl ?_)))))))
  refine WL.val (run_lenSlice underlying22 rfl) rfl rfl (WL.val (run_quo rfl rfl (by omega) (by omega) (by omega)) rfl rfl (WL.val (run_quo rfl rfl (by omega) (by omega) (by omega)) rfl rfl (WL.val run_assign rfl rfl (WL.nil (W.seq (W.seq (W.region ?_)))))))
  refine WL.val run_move rfl rfl (WL.val (run_lenSlice underlying22 rfl) rfl rfl (WL.val (run_rem rfl rfl (by omega) (by omega)) rfl rfl ?_))
  refine WL.dec (run_neq rfl rfl) rfl rfl (fun c18 => ?_) (fun c18 => ?_)
  ·
   refine WL.val run_move rfl rfl (WL.skip rfl rfl (WL.skip rfl rfl (WL.skip rfl rfl (WL.skip rfl rfl (WL.skip rfl rfl (WL.val (run_pickT rfl) rfl rfl (WL.nil ?_)))))))
   refine W.condT rfl (W.seq (W.region (WL.val run_assign rfl rfl (WL.val run_assign rfl rfl (WL.nil (W.ret (bodyQ.r2 (v1 := .int .i64 _) (v2 := .int .i64 _) results111 rfl rfl ?_)))))))
   exact .inr ⟨by omega, rfl, closeS (cd := cd) (cm := cm) (gd := gd) (od := od) (am := am) hwf h⟩
  refine WL.val run_move rfl rfl (WL.val run_move rfl rfl (WL.val run_move rfl rfl (WL.val run_move rfl rfl (WL.eff (eff_call call107 (in_s (n := ((bs.length / 8 / 2 : Nat) : Int)) hw3 h)) rfl rfl ?_))))
  rintro _ w ⟨hv, h⟩
  rcases hv with ⟨rfl, hi⟩ | ⟨rfl, hi⟩
  ·
   refine WL.val (run_not rfl) rfl rfl (WL.val (run_pickF rfl) rfl rfl (WL.nil (W.condF rfl (W.skip (W.seq (W.seq ?_))))))
   have ob_ := Int.eq_ofNat_of_zero_le (show 0 ≤ at_ by omega)
   obtain ⟨p, rfl⟩ := ob_
   have ob_ : ∃ q, bs.length = 16 * q := ⟨bs.length / 16, by omega⟩
   obtain ⟨q, hqq⟩ := ob_
   have hq2 : bs.length / 8 / 2 = q := by omega
   rw [hq2] at hi
   have ob_ := sliced_part (b := gd) (o := od) (show p * 8 ≤ (p + q) * 8 by omega) (show (p + q) * 8 ≤ cd by omega)
   obtain ⟨lo, hlo, hlo2⟩ := ob_
   have hpl : (partS s p q).length = (p + q) * 8 - p * 8 := by unfold partS; rw [List.length_take, List.length_drop]; omega
   refine W.region (WL.val run_move rfl rfl (WL.val run_move rfl rfl (WL.val run_move rfl rfl (WL.eff (eff_call call54 (part_ok (at_ := p) (n := bs.length / 8 / 2) hw3 (by omega) hdc h)) rfl rfl ?_))))
   rintro _ w ⟨hv, h⟩
   rw [hq2, hlo, ← hpl] at hv
   subst hv
   have CP : ∀ L' : List HProp, Gives L' (Cells 1 (.slice (some ⟨gd, od, none⟩) (8 * s.N) cd) (8 * s.N) (bytesV s.d)) → Gives L' (Bytes (.slice (some ⟨gd, od + lo, none⟩) (partS s p q).length (cd - p * 8)) (partS s p q)) := fun L' gg hh H => by
     have c1 := (gg hh H).cut (l := p * 8) (h := (p + q) * 8) (m := cd) (by omega) (by omega) (by omega) (by omega)
     rw [hlo, ← hpl] at c1
     have e1 : ((bytesV s.d).drop (p * 8 * 1)).take ((partS s p q).length * 1) = bytesV (partS s p q) := by
       rw [hpl, Nat.mul_one, Nat.mul_one]
       unfold partS bytesV
       rw [List.map_take, List.map_drop, Nat.mul_comm p 8, show (p + q) * 8 - 8 * p = 8 * q by omega]
     rw [e1] at c1
     exact c1
   refine WL.val (run_lenSlice underlying22 rfl) rfl rfl (WL.val run_move rfl rfl (WL.nil (W.block ?_)))
   refine W.loop (fun (k : Nat) env w => ∃ j, env = mkE j [(0, .pointer (some ⟨b, 0, none⟩)), (1, .int .i64 (p : Int)), (2, .slice ax bs.length cx), (8, .int .i64 (q : Int)), (29, .slice (some ⟨gd, od + lo, none⟩) (partS s p q).length (cd - p * 8)), (30, .int .i64 (((partS s p q).length : Nat) : Int)), (31, .int .i64 (k : Int))] ∧ k ≤ (partS s p q).length ∧ (∀ j, j < k → (partS s p q)[j]? = bs[j]?) ∧ On W0 (blk b [.int .i64 (s.N : Int), .slice (some ⟨gd, od, none⟩) (8 * s.N) cd, .slice am s.m.length cm] 105 :: Own 1 (.slice (some ⟨gd, od, none⟩) (8 * s.N) cd) (8 * s.N) (bytesV s.d) :: Own 1 (.slice am s.m.length cm) s.m.length (bytesV s.m) :: L) w) (fun k => (partS s p q).length - k) (0) ?_ ?_
   · exact ⟨_, mkE_of ⟨rfl, rfl, rfl, (by show Value.int .i64 ((bs.length / 8 / 2 : Nat) : Int) = _; rw [hq2]), rfl, rfl, rfl, trivial⟩, Nat.zero_le _, (fun j hj => by omega), h⟩
   rintro k env w ⟨j, rfl, hk, hsame, h⟩
   refine W.seq (W.region (WL.val (run_lss rfl rfl) rfl rfl (WL.nil (W.seq ?_))))
   refine W.condIf rfl (fun c11 => ?_) (fun c11 => ?_)
   ·
    refine W.skip (W.seq (W.block (W.seq ?_)))
    have ob_ : ∃ x, (partS s p q)[k]? = some x := ⟨(partS s p q)[k]'(by omega), by simp⟩
    obtain ⟨x, hx⟩ := ob_
    have ob_ : ∃ y, bs[k]? = some y := ⟨bs[k]'(by omega), by simp⟩
    obtain ⟨y, hy⟩ := ob_
    have ob_ := (h.readsTo C).addr (by omega)
    obtain ⟨bx, ox, rfl⟩ := ob_
    refine W.region (WL.val run_move rfl rfl (WL.val (run_indexAddr underlying22 sizeOf5 rfl rfl (by omega) (by omega)) rfl rfl (WL.val (run_load1 isAgg5 rfl ((CP _ (Gives.ownO (v := .slice (some ⟨gd, od, none⟩) (8 * s.N) cd)) _ h.sat).elem (i := k) (vs := [.int .u8 x.toNat]) (by omega) (bytes_row hx) 0 _ rfl)) rfl rfl (WL.val run_assign rfl rfl (WL.val run_assign rfl rfl (WL.nil (W.seq ?_)))))))
    refine W.region (WL.val run_move rfl rfl (WL.val run_move rfl rfl (WL.val run_move rfl rfl (WL.val (run_indexAddr underlying22 sizeOf5 rfl rfl (by omega) (by omega)) rfl rfl (WL.val (run_load1 isAgg5 rfl ((h.readsTo C).elem (i := k) (vs := [.int .u8 y.toNat]) (by omega) (bytes_row hy) 0 _ rfl)) rfl rfl (WL.val (run_neq rfl rfl) rfl rfl (WL.nil ?_)))))))
    refine W.condIf rfl (fun c17 => ?_) (fun c17 => ?_)
    ·
     refine W.seq (W.region (WL.val run_move rfl rfl (WL.val run_assign rfl rfl (WL.val run_assign rfl rfl (WL.nil (W.ret (bodyQ.r2 (v1 := .int .i64 _) (v2 := .int .i64 _) results111 rfl rfl ?_)))))))
     refine .inl ⟨p, q, rfl, hqq, by omega, by omega, .inr ⟨k, by omega, ?_, hsame, rfl, closeS (cd := cd) (cm := cm) (gd := gd) (od := od) (am := am) hwf h⟩⟩
     rw [hx, hy]
     intro hh
     simp only [Option.some.injEq] at hh
     subst hh
     exact c17 rfl
    refine W.skip (W.region (WL.val (run_incN rfl rfl (by omega)) rfl rfl (WL.val run_move rfl rfl (WL.nil ?_))))
    exact ⟨k + 1, ⟨_, mkE_of ⟨rfl, rfl, rfl, rfl, rfl, rfl, rfl, trivial⟩, by omega, (fun j hj => by
      by_cases hjk : j = k
      · subst hjk; rw [hx, hy]; congr 1; exact UInt8.toNat_inj.1 (by omega)
      · exact hsame j (by omega)), h⟩, by show (partS s p q).length - (k + 1) < (partS s p q).length - k; omega⟩
   refine W.exit (W.seq ?_)
   have hall : partS s p q = bs.take (8 * q) := by
     have := prefix_eq (k := 8 * q) (xs := partS s p q) (ys := bs) (fun j hj => hsame j (by omega)) (by omega)
     exact this
   have ob_ := cut_gives (k := q * 8) C (by omega) hxc
   obtain ⟨a', c', hcut, CC⟩ := ob_
   rw [Nat.mul_comm q 8] at CC
   rw [show (bs.drop (q * 8)).length = (bs.drop (8 * q)).length by rw [Nat.mul_comm]] at hcut
   refine W.region (WL.val run_move rfl rfl (WL.val run_move rfl rfl (WL.val run_move rfl rfl (WL.val run_move rfl rfl (WL.val (run_mulN (m := q) (n := 8) rfl rfl (by omega)) rfl rfl (WL.val (run_cutLV underlying22 sizeOf5 rfl rfl (by omega) hcut) rfl rfl (WL.eff (eff_call call109 (write_ok (s := s) (bs := bs.drop (8 * q)) (closeS (cd := cd) (cm := cm) (gd := gd) (od := od) (am := am) hwf h) CC)) rfl rfl ?_)))))))
   rintro _ w hv
   rcases hv with ⟨p', hp', hm1, hm2, hm3, rfl, h⟩ | ⟨hno, rfl, h⟩
   rotate_left
   · exfalso
     refine hno ⟨by rw [List.length_drop]; omega, ?_⟩
     rw [List.length_drop]
     unfold inS
     omega
   have ob_ : p = p' := by omega
   obtain rfl := ob_
   refine WL.nil (W.seq (W.region (WL.val run_assign rfl rfl (WL.val run_assign rfl rfl (WL.nil (W.ret (bodyQ.r2 (v1 := .int .i64 _) (v2 := .int .i64 _) results111 rfl rfl ?_)))))))
   exact .inl ⟨p, q, rfl, hqq, by omega, by omega, .inl ⟨hall, rfl, h⟩⟩
  refine WL.val (run_not rfl) rfl rfl (WL.val (run_pickF rfl) rfl rfl (WL.nil (W.condT rfl (W.seq (W.region (WL.val run_assign rfl rfl (WL.val run_assign rfl rfl ?_)))))))
  refine WL.nil (W.ret (bodyQ.r2 (v1 := .int .i64 _) (v2 := .int .i64 _) results111 rfl rfl ?_))
  exact .inr ⟨fun hh => hi hh.2, rfl, closeS (cd := cd) (cm := cm) (gd := gd) (od := od) (am := am) hwf h⟩
end Go.Proofs.YtjbgiingimhnnaaGreat
/-
  The hosts' keys and who holds the reservation, as plain data. No program is named here.
-/
namespace Go.Sl.RsM
open Go Go.Sl
set_option linter.unusedVariables false
set_option linter.unusedSimpArgs false
structure Tb where
  K : Nat → Int
  hold : Int
  typ : Int
  gen : Int
def Tb.cells (t : Tb) : List Value := [.int .u64 (t.K 0), .int .u64 (t.K 1), .int .u64 (t.K 2), .int .u64 (t.K 3), .int .u64 (t.K 4), .int .u64 (t.K 5), .int .u64 (t.K 6), .int .u64 (t.K 7), .int .i64 t.hold, .int .i64 t.typ, .int .u32 t.gen]
def keysV (K : Nat → Int) : List Value := [.int .u64 (K 0), .int .u64 (K 1), .int .u64 (K 2), .int .u64 (K 3), .int .u64 (K 4), .int .u64 (K 5), .int .u64 (K 6), .int .u64 (K 7)]
theorem cells_key {t : Tb} {i : Nat} (h : i < 8) : t.cells[i]? = some (.int .u64 (t.K i)) := by
  match i, h with
  | 0, _ | 1, _ | 2, _ | 3, _ | 4, _ | 5, _ | 6, _ | 7, _ => rfl
theorem keysV_key {K : Nat → Int} {i : Nat} (h : i < 8) : (keysV K)[i]? = some (.int .u64 (K i)) := by
  match i, h with
  | 0, _ | 1, _ | 2, _ | 3, _ | 4, _ | 5, _ | 6, _ | 7, _ => rfl
def Tb.put (t : Tb) (i : Nat) (x : Int) : Tb := { t with K := fun j => if j = i then x else t.K j }
theorem cells_put {t : Tb} {i : Nat} {x : Int} (h : i < 8) : t.cells.set i (.int .u64 x) = (t.put i x).cells := by
  match i, h with
  | 0, _ | 1, _ | 2, _ | 3, _ | 4, _ | 5, _ | 6, _ | 7, _ => simp [Tb.cells, Tb.put]
def rep (s k c : Int) : Value := .agg #[.int .i64 s, .int .i64 k, .int .i64 c, .slice none 0 0, .int .i64 0]
def hostB (h : Int) : Bool := decide (0 ≤ h) && decide (h < 8)
theorem hostB_iff {h : Int} : hostB h = true ↔ 0 ≤ h ∧ h < 8 := by simp [hostB]
theorem hostB_no {h : Int} : hostB h = false ↔ ¬ (0 ≤ h ∧ h < 8) := by rw [← Bool.not_eq_true, hostB_iff]
def typedB (y : Int) : Bool := decide (y = 1) || (decide (y = 3) || (decide (y = 5) || decide (y = 6)))
theorem typedB_iff {y : Int} : typedB y = true ↔ y = 1 ∨ y = 3 ∨ y = 5 ∨ y = 6 := by simp [typedB]
theorem typedB_no {y : Int} : typedB y = false ↔ ¬ (y = 1 ∨ y = 3 ∨ y = 5 ∨ y = 6) := by rw [← Bool.not_eq_true, typedB_iff]
def Tb.regsB (t : Tb) : Bool := decide (t.typ = 5) || decide (t.typ = 6)
theorem Tb.regsB_iff {t : Tb} : t.regsB = true ↔ t.typ = 5 ∨ t.typ = 6 := by simp [Tb.regsB]
/-- Of the first n hosts the others that are registered, and such. -/
def hostsN (K : Nat → Int) (h : Int) (p : Int → Bool) (n : Nat) : List Nat := (List.range n).filter fun i => !(decide ((i : Int) = h)) && (!decide (K i = 0) && p (K i))
theorem hostsN_succ (K : Nat → Int) (h : Int) (p : Int → Bool) (n : Nat) : hostsN K h p (n + 1) = hostsN K h p n ++ if (n : Int) = h ∨ K n = 0 ∨ p (K n) = false then [] else [n] := by
  unfold hostsN
  rw [List.range_succ, List.filter_append]
  congr 1
  by_cases h1 : (n : Int) = h
  · simp [List.filter_cons, h1]
  · by_cases h2 : K n = 0
    · simp [List.filter_cons, h1, h2]
    · cases h3 : p (K n) <;> simp [List.filter_cons, h1, h2, h3]
theorem hostsN_len (K : Nat → Int) (h : Int) (p : Int → Bool) (n : Nat) : (hostsN K h p n).length ≤ n := by
  have := List.length_filter_le (fun i : Nat => !(decide ((i : Int) = h)) && (!decide (K i = 0) && p (K i))) (List.range n)
  simpa [hostsN] using this
theorem hostsN_mem {K : Nat → Int} {h : Int} {p : Int → Bool} {n i : Nat} : i ∈ hostsN K h p n ↔ i < n ∧ ¬ (i : Int) = h ∧ ¬ K i = 0 ∧ p (K i) = true := by
  simp [hostsN]
def noteV (code : Int) (i : Nat) : List Value := [.int .i64 (i : Int), .int .i64 code]
theorem noteV_length (code : Int) (i : Nat) : (noteV code i).length = 2 := rfl
/-- Notices of one kind. -/
def notesV (code : Int) (l : List Nat) : List Value := l.flatMap (noteV code)
theorem notesV_snoc (code : Int) (l : List Nat) (i : Nat) : notesV code l ++ noteV code i = notesV code (l ++ [i]) := by simp [notesV]
/-- What becomes of a table where a host leaves. -/
def Tb.freed (t : Tb) : Tb := { t with hold := -1, typ := 0 }
def Tb.told (t : Tb) (h : Int) : List Nat := if t.regsB then hostsN t.K h (fun _ => true) 8 else []
def Tb.inc (t : Tb) : Tb := { t with gen := IntKind.u32.wrap (t.gen + 1) }
end Go.Sl.RsM
namespace Go.Sl.RsM
open Go Go.Sl
theorem cells_at {t : Tb} {i : Nat} (h : i < 8) : t.cells[0 + 0 + ((i : Nat) : Int).toNat * 1]? = some (.int .u64 (t.K i)) := by
  rw [show 0 + 0 + ((i : Nat) : Int).toNat * 1 = i by simp]; exact cells_key h
theorem cells_set {t : Tb} {i : Nat} {x : Int} (h : i < 8) : t.cells.set (0 + 0 + ((i : Nat) : Int).toNat * 1) (.int .u64 x) = (t.put i x).cells := by
  rw [show 0 + 0 + ((i : Nat) : Int).toNat * 1 = i by simp]; exact cells_put h
theorem cells_lt {t : Tb} {i : Nat} (h : i < 8) : Nat.ble (0 + 0 + ((i : Nat) : Int).toNat * 1 + 1) t.cells.length = true := by
  rw [show 0 + 0 + ((i : Nat) : Int).toNat * 1 = i by simp, show t.cells.length = 11 from rfl, Nat.ble_eq]; omega
def newT : Tb := ⟨fun _ => 0, -1, 0, 0⟩
def Tb.take (t : Tb) (h typ : Int) : Tb := { t with hold := h, typ := typ }
def Tb.cleared (t : Tb) : Tb := { t.inc with K := fun _ => 0, hold := -1, typ := 0 }
def regO (t : Tb) (i : Nat) (fresh : Int) : List Nat × Tb := if fresh = 0 ∧ t.hold = (i : Int) then (t.told i, t.inc.freed.put i fresh) else ([], t.inc.put i fresh)
/-- Whoever holds it, or may as a registrant. -/
def alwP (t : Tb) (hh : Int) : Prop := t.hold = -1 ∨ t.hold = hh ∨ (t.regsB = true ∧ ∃ i : Nat, hh = i ∧ i < 8 ∧ t.K i ≠ 0)
def allowP (t : Tb) (hh kind : Int) : Prop := alwP t hh ∨ ((kind = 1 ∨ kind = 2) ∧ (t.typ = 1 ∨ t.typ = 5)) ∨ ¬ (1 ≤ kind ∧ kind ≤ 6)
theorem cells_atI {t : Tb} {x : Int} (h0 : 0 ≤ x) (h : x < 8) : t.cells[0 + 0 + x.toNat * 1]? = some (.int .u64 (t.K x.toNat)) := by
  rw [show 0 + 0 + x.toNat * 1 = x.toNat by simp]; exact cells_key (by omega)
/-- Keys taken away. -/
def zer (t : Tb) (l : List Nat) : Tb := { t with K := fun j => if j ∈ l then 0 else t.K j }
theorem zer_nil (t : Tb) : zer t [] = t := by simp [zer]
theorem zer_snoc (t : Tb) (l : List Nat) (i : Nat) : zer t (l ++ [i]) = (zer t l).put i 0 := by
  unfold zer Tb.put
  congr 1
  funext j
  by_cases h : j = i
  · simp [h]
  · simp [h]
def takesP (t : Tb) (hh other : Int) : Prop := t.hold ≠ -1 ∧ t.hold ≠ hh ∧ t.K t.hold.toNat = other
instance (t : Tb) (hh other : Int) : Decidable (takesP t hh other) := by unfold takesP; exact inferInstance
def preL (t : Tb) (hh other : Int) : List Nat := hostsN t.K hh (fun k => decide (k = other)) 8
def preT0 (t : Tb) (hh other typ : Int) : Tb := (if takesP t hh other then t.take hh typ else t).inc
def preT (t : Tb) (hh other typ : Int) : Tb := zer (preT0 t hh other typ) (preL t hh other)
theorem take_snoc {α : Type} {l : List α} {q : Nat} {x : α} (h : l[q]? = some x) : l.take (q + 1) = l.take q ++ [x] := by
  rw [List.take_add_one, h]; rfl
end Go.Sl.RsM
namespace Go.Sl.RsM
open Go Go.Sl
/-- Whoever holds it is registered, and its type is one. -/
def inv (t : Tb) : Prop := (t.hold = -1 ∧ t.typ = 0) ∨ (0 ≤ t.hold ∧ t.hold < 8 ∧ t.K t.hold.toNat ≠ 0 ∧ typedB t.typ = true)
theorem inv_hold {t : Tb} (h : inv t) : t.hold = -1 ∨ (0 ≤ t.hold ∧ t.hold < 8) := by rcases h with h | h <;> omega
structure Act where
  op : Int
  host : Int
  key : Int
  other : Int
  typ : Int
def Act.cells (a : Act) : List Value := [.int .i64 a.op, .int .i64 a.host, .int .u64 a.key, .int .u64 a.other, .int .i64 a.typ]
theorem Act.cells_length (a : Act) : a.cells.length = 5 := rfl
end Go.Sl.RsM
namespace Go.Sl.RsM
open Go Go.Sl
end Go.Sl.RsM
namespace Go.Sl.RsM
open Go Go.Sl
theorem told_len {t : Tb} {h : Int} : (t.told h).length ≤ 8 := by
  unfold Tb.told
  split
  · exact hostsN_len ..
  · exact Nat.zero_le _
end Go.Sl.RsM
namespace Go.Sl.RsM
open Go Go.Sl
end Go.Sl.RsM
/-
  The contracts of reservations. Lines of walks printed by a program of the prover's.
-/
namespace Go.Proofs.YtjbgiingimhnnaaGreat
open Go.Proofs.Tryz
open Go Go.Sl Go.Sl.RsM
set_option linter.unusedVariables false
set_option linter.unusedSimpArgs false
set_option maxHeartbeats 1000000
set_option maxRecDepth 8000
variable {W0 w : World} {L F : List HProp}
theorem host_ok {x : Int} (h : On W0 L w) : Calls Tryz.prog 61 #[.int .i64 x] w (Ret fun v w' => v = .bool (hostB x) ∧ On W0 L w') := by
  refine enter func61 rfl ntmps61 rfl (W.seq (W.region (WL.val run_assign rfl rfl (WL.nil (W.seq (W.region (WL.val run_move rfl rfl ?_)))))))
  refine WL.dec (run_geq rfl rfl) rfl rfl (fun c4 => ?_) (fun c4 => ?_)
  ·
   refine WL.val run_move rfl rfl (WL.val run_move rfl rfl ?_)
   refine WL.dec (run_lss rfl rfl) rfl rfl (fun c7 => ?_) (fun c7 => ?_)
   ·
    refine WL.val (run_pickT rfl) rfl rfl (WL.val run_assign rfl rfl (WL.nil (W.ret (bodyQ.r1 (v := .bool _) results61 rfl ?_))))
    exact ⟨by rw [hostB_iff.2 ⟨by omega, by omega⟩], h⟩
   refine WL.val (run_pickT rfl) rfl rfl (WL.val run_assign rfl rfl (WL.nil (W.ret (bodyQ.r1 (v := .bool _) results61 rfl ?_))))
   exact ⟨by rw [hostB_no.2 (by omega)], h⟩
  refine WL.val run_move rfl rfl (WL.skip rfl rfl (WL.skip rfl rfl (WL.val (run_pickF rfl) rfl rfl (WL.val run_assign rfl rfl (WL.nil (W.ret (bodyQ.r1 (v := .bool _) results61 rfl ?_)))))))
  exact ⟨by rw [hostB_no.2 (by omega)], h⟩
theorem typed_ok {x : Int} (h : On W0 L w) : Calls Tryz.prog 56 #[.int .i64 x] w (Ret fun v w' => v = .bool (typedB x) ∧ On W0 L w') := by
  refine enter func56 rfl ntmps56 rfl (W.seq (W.region (WL.val run_assign rfl rfl (WL.nil (W.seq (W.region (WL.val run_move rfl rfl ?_)))))))
  refine WL.dec (run_eql rfl rfl) rfl rfl (fun c4 => ?_) (fun c4 => ?_)
  ·
   refine WL.val run_move rfl rfl (WL.skip rfl rfl (WL.skip rfl rfl (WL.val (run_pickT rfl) rfl rfl (WL.val run_move rfl rfl (WL.skip rfl rfl (WL.skip rfl rfl (WL.val (run_pickT rfl) rfl rfl ?_)))))))
   refine WL.val run_move rfl rfl (WL.skip rfl rfl (WL.skip rfl rfl (WL.val (run_pickT rfl) rfl rfl (WL.val run_assign rfl rfl (WL.nil (W.ret (bodyQ.r1 (v := .bool _) results56 rfl ?_)))))))
   exact ⟨by rw [typedB_iff.2 (by omega)], h⟩
  refine WL.val run_move rfl rfl (WL.val run_move rfl rfl ?_)
  refine WL.dec (run_eql rfl rfl) rfl rfl (fun c7 => ?_) (fun c7 => ?_)
  ·
   refine WL.val (run_pickF rfl) rfl rfl (WL.val run_move rfl rfl (WL.skip rfl rfl (WL.skip rfl rfl (WL.val (run_pickT rfl) rfl rfl (WL.val run_move rfl rfl (WL.skip rfl rfl (WL.skip rfl rfl ?_)))))))
   refine WL.val (run_pickT rfl) rfl rfl (WL.val run_assign rfl rfl (WL.nil (W.ret (bodyQ.r1 (v := .bool _) results56 rfl ?_))))
   exact ⟨by rw [typedB_iff.2 (by omega)], h⟩
  refine WL.val (run_pickF rfl) rfl rfl (WL.val run_move rfl rfl (WL.val run_move rfl rfl ?_))
  refine WL.dec (run_eql rfl rfl) rfl rfl (fun c11 => ?_) (fun c11 => ?_)
  ·
   refine WL.val (run_pickF rfl) rfl rfl (WL.val run_move rfl rfl (WL.skip rfl rfl (WL.skip rfl rfl (WL.val (run_pickT rfl) rfl rfl (WL.val run_assign rfl rfl (WL.nil (W.ret ?_)))))))
   refine bodyQ.r1 (v := .bool _) results56 rfl ?_
   exact ⟨by rw [typedB_iff.2 (by omega)], h⟩
  refine WL.val (run_pickF rfl) rfl rfl (WL.val run_move rfl rfl (WL.val run_move rfl rfl ?_))
  refine WL.dec (run_eql rfl rfl) rfl rfl (fun c15 => ?_) (fun c15 => ?_)
  ·
   refine WL.val (run_pickF rfl) rfl rfl (WL.val run_assign rfl rfl (WL.nil (W.ret (bodyQ.r1 (v := .bool _) results56 rfl ?_))))
   exact ⟨by rw [typedB_iff.2 (by omega)], h⟩
  refine WL.val (run_pickF rfl) rfl rfl (WL.val run_assign rfl rfl (WL.nil (W.ret (bodyQ.r1 (v := .bool _) results56 rfl ?_))))
  exact ⟨by rw [typedB_no.2 (by omega)], h⟩
theorem wrong_ok {x y : Int} (h : On W0 L w) : Calls Tryz.prog 26 #[.int .i64 x, .int .i64 y] w (Ret fun v w' => v = rep 2 x y ∧ On W0 L w') := by
  refine enter func26 rfl ntmps26 rfl (W.seq (W.region (WL.eff (eff_alloc h zeroValue36 rfl) rfl rfl ?_)))
  rintro _ w ⟨b4, rfl, h⟩
  refine WL.nil (W.seq (W.region (WL.val run_move rfl rfl (WL.val run_move rfl rfl (WL.val (run_buildS (pl := [(0, 1), (1, 1), (2, 1), (3, 1), (4, 1)]) (out := [.int .i64 _, .int .i64 _, .int .i64 _, .slice _ _ _, .int .i64 _]) underlying36 zeroValue36 (fun w => by kernel_rfl) rfl (⟨⟨_, _, rfl, rfl, by decide⟩, ⟨⟨_, _, rfl, rfl, by decide⟩, ⟨⟨_, _, rfl, rfl, by decide⟩, trivial⟩⟩⟩) rfl) rfl rfl (WL.eff (eff_storeW (vs := [.int .i64 _, .int .i64 _, .int .i64 _, .slice _ _ _, .int .i64 _]) h sizeOf36 rfl rfl rfl rfl rfl) rfl rfl ?_))))))
  rintro _ w h
  refine WL.nil (W.ret (bodyQ.rcB (vs := [.int .i64 _, .int .i64 _, .int .i64 _, .slice _ _ _, .int .i64 _]) h results26 isAgg36 sizeOf36 rfl rfl rfl ?_))
  exact ⟨rfl, h.tail⟩
theorem conflict_ok (h : On W0 L w) : Calls Tryz.prog 113 #[] w (Ret fun v w' => v = rep 24 0 0 ∧ On W0 L w') := by
  refine enter func113 rfl ntmps113 rfl (W.seq (W.region (WL.eff (eff_alloc h zeroValue36 rfl) rfl rfl ?_)))
  rintro _ w ⟨b0, rfl, h⟩
  refine WL.nil (W.seq (W.region (WL.val (run_buildS (pl := [(0, 1), (1, 1), (2, 1), (3, 1), (4, 1)]) (out := [.int .i64 _, .int .i64 _, .int .i64 _, .slice _ _ _, .int .i64 _]) underlying36 zeroValue36 (fun w => by kernel_rfl) rfl (⟨⟨_, _, rfl, rfl, by decide⟩, trivial⟩) rfl) rfl rfl (WL.eff (eff_storeW (vs := [.int .i64 _, .int .i64 _, .int .i64 _, .slice _ _ _, .int .i64 _]) h sizeOf36 rfl rfl rfl rfl rfl) rfl rfl ?_))))
  rintro _ w h
  refine WL.nil (W.ret (bodyQ.rcB (vs := [.int .i64 _, .int .i64 _, .int .i64 _, .slice _ _ _, .int .i64 _]) h results113 isAgg36 sizeOf36 rfl rfl rfl ?_))
  exact ⟨rfl, h.tail⟩
theorem good_ok (h : On W0 L w) : Calls Tryz.prog 115 #[] w (Ret fun v w' => v = rep 0 0 0 ∧ On W0 L w') := by
  refine enter func115 rfl ntmps115 rfl (W.seq (W.region (WL.eff (eff_alloc h zeroValue36 rfl) rfl rfl ?_)))
  rintro _ w ⟨b0, rfl, h⟩
  refine WL.nil (W.seq (W.region (WL.val (run_buildS (pl := [(0, 1), (1, 1), (2, 1), (3, 1), (4, 1)]) (out := [.int .i64 _, .int .i64 _, .int .i64 _, .slice _ _ _, .int .i64 _]) underlying36 zeroValue36 (fun w => by kernel_rfl) rfl (⟨⟨_, _, rfl, rfl, by decide⟩, trivial⟩) rfl) rfl rfl (WL.eff (eff_storeW (vs := [.int .i64 _, .int .i64 _, .int .i64 _, .slice _ _ _, .int .i64 _]) h sizeOf36 rfl rfl rfl rfl rfl) rfl rfl ?_))))
  rintro _ w h
  refine WL.nil (W.ret (bodyQ.rcB (vs := [.int .i64 _, .int .i64 _, .int .i64 _, .slice _ _ _, .int .i64 _]) h results115 isAgg36 sizeOf36 rfl rfl rfl ?_))
  exact ⟨rfl, h.tail⟩
theorem field_ok (h : On W0 L w) : Calls Tryz.prog 112 #[] w (Ret fun v w' => v = rep 2 5 9216 ∧ On W0 L w') := by
  refine enter func112 rfl ntmps112 rfl (W.seq (W.region (WL.eff (eff_alloc h zeroValue36 rfl) rfl rfl ?_)))
  rintro _ w ⟨b0, rfl, h⟩
  refine WL.nil (W.seq (W.region (WL.eff (eff_call call26 (wrong_ok h)) rfl rfl ?_)))
  rintro _ w ⟨rfl, h⟩
  refine WL.eff (eff_storeW (vs := [.int .i64 _, .int .i64 _, .int .i64 _, .slice _ _ _, .int .i64 _]) h sizeOf36 rfl rfl rfl rfl rfl) rfl rfl ?_
  rintro _ w h
  refine WL.nil (W.ret (bodyQ.rcB (vs := [.int .i64 _, .int .i64 _, .int .i64 _, .slice _ _ _, .int .i64 _]) h results112 isAgg36 sizeOf36 rfl rfl rfl ?_))
  exact ⟨rfl, h.tail⟩
theorem every_ok {k : Int} (h : On W0 L w) : Calls Tryz.prog 118 #[.int .u64 k] w (Ret fun v w' => v = .bool true ∧ On W0 L w') := by
  refine enter func118 rfl ntmps118 rfl (W.seq (W.region (WL.val run_assign rfl rfl (WL.nil (W.seq (W.region (WL.val run_assign rfl rfl ?_)))))))
  refine WL.nil (W.ret (bodyQ.r1 (v := .bool _) results118 rfl ?_))
  exact ⟨rfl, h⟩
theorem regs_ok {b : Nat} {t : Tb} (h : On W0 (blk b t.cells 113 :: L) w) : Calls Tryz.prog 60 #[.pointer (some ⟨b, 0, none⟩)] w (Ret fun v w' => v = .bool t.regsB ∧ On W0 (blk b t.cells 113 :: L) w') := by
  refine enter func60 rfl ntmps60 rfl (W.seq (W.region (WL.val run_assign rfl rfl (WL.nil (W.seq (W.region (WL.val run_move rfl rfl ?_)))))))
  refine WL.val (run_nilCheck rfl) rfl rfl (WL.val (run_fieldAddr 9 underlying113 rfl sizeOf3 rfl rfl) rfl rfl (WL.val (run_load1 isAgg3 rfl (h.cellB rfl)) rfl rfl ?_))
  refine WL.dec (run_eql rfl rfl) rfl rfl (fun c7 => ?_) (fun c7 => ?_)
  ·
   refine WL.val run_move rfl rfl (WL.skip rfl rfl (WL.skip rfl rfl (WL.skip rfl rfl (WL.skip rfl rfl (WL.skip rfl rfl (WL.val (run_pickT rfl) rfl rfl (WL.val run_assign rfl rfl ?_)))))))
   refine WL.nil (W.ret (bodyQ.r1 (v := .bool _) results60 rfl ?_))
   exact ⟨by rw [Tb.regsB_iff.2 (by omega)], h⟩
  refine WL.val run_move rfl rfl (WL.val run_move rfl rfl (WL.val (run_nilCheck rfl) rfl rfl (WL.val (run_fieldAddr 9 underlying113 rfl sizeOf3 rfl rfl) rfl rfl (WL.val (run_load1 isAgg3 rfl (h.cellB rfl)) rfl rfl ?_))))
  refine WL.dec (run_eql rfl rfl) rfl rfl (fun c13 => ?_) (fun c13 => ?_)
  ·
   refine WL.val (run_pickF rfl) rfl rfl (WL.val run_assign rfl rfl (WL.nil (W.ret (bodyQ.r1 (v := .bool _) results60 rfl ?_))))
   exact ⟨by rw [Tb.regsB_iff.2 (by omega)], h⟩
  refine WL.val (run_pickF rfl) rfl rfl (WL.val run_assign rfl rfl (WL.nil (W.ret (bodyQ.r1 (v := .bool _) results60 rfl ?_))))
  exact ⟨by rw [show t.regsB = false by rw [← Bool.not_eq_true, Tb.regsB_iff]; omega], h⟩
theorem clip_notes {a : Option Addr} {n c : Nat} {xs : List Value} (h : On W0 (Own 2 (.slice a n c) n xs :: L) w) :
    Calls Tryz.prog 143 #[.slice a n c] w (Ret fun v w' => v = .slice a n n ∧ On W0 (Own 2 (.slice a n n) n xs :: L) w') := by
  refine enter func143 rfl ntmps143 rfl ?_
  have ob_ := Own.form h
  obtain ⟨a', c', hv, hnc, hcm, hnone⟩ := ob_
  simp only [Value.slice.injEq] at hv
  obtain ⟨rfl, _, rfl⟩ := hv
  refine W.seq (W.region (WL.val run_assign rfl rfl (WL.nil (W.seq (W.region (WL.val run_move rfl rfl (WL.val run_move rfl rfl ?_)))))))
  refine WL.val (run_lenSlice underlying120 rfl) rfl rfl (WL.val run_move rfl rfl (WL.val (run_lenSlice underlying120 rfl) rfl rfl (WL.val (run_cutHM underlying120 sizeOf165 rfl rfl rfl  (by omega) (by omega)) rfl rfl (WL.val run_assign rfl rfl (WL.nil (W.ret (bodyQ.r1 (v := .slice _ _ _) results143 rfl ?_)))))))
  exact ⟨rfl, Own.clip h⟩
theorem clip_keys {a : Option Addr} {n c : Nat} {xs : List Value} (h : On W0 (Own 1 (.slice a n c) n xs :: L) w) :
    Calls Tryz.prog 120 #[.slice a n c] w (Ret fun v w' => v = .slice a n n ∧ On W0 (Own 1 (.slice a n n) n xs :: L) w') := by
  refine enter func120 rfl ntmps120 rfl ?_
  have ob_ := Own.form h
  obtain ⟨a', c', hv, hnc, hcm, hnone⟩ := ob_
  simp only [Value.slice.injEq] at hv
  obtain ⟨rfl, _, rfl⟩ := hv
  refine W.seq (W.region (WL.val run_assign rfl rfl (WL.nil (W.seq (W.region (WL.val run_move rfl rfl (WL.val run_move rfl rfl ?_)))))))
  refine WL.val (run_lenSlice underlying129 rfl) rfl rfl (WL.val run_move rfl rfl (WL.val (run_lenSlice underlying129 rfl) rfl rfl (WL.val (run_cutHM underlying129 sizeOf23 rfl rfl rfl  (by omega) (by omega)) rfl rfl (WL.val run_assign rfl rfl (WL.nil (W.ret (bodyQ.r1 (v := .slice _ _ _) results120 rfl ?_)))))))
  exact ⟨rfl, Own.clip h⟩
theorem others_ok {b : Nat} {t : Tb} {hh code : Int} {f : FuncId} {caps : Array Value} {p : Int → Bool} (h : On W0 (blk b t.cells 113 :: L) w) (hf : ∀ args w, (callFunc f args).run Tryz.prog w = .ok (.enter f args) w)
    (hg : ∀ (k : Int) (A : HProp) (w : World), On W0 (A :: blk b t.cells 113 :: L) w → Calls Tryz.prog f (#[.int .u64 k] ++ caps) w (Ret fun v w' => v = .bool (p k) ∧ On W0 (A :: blk b t.cells 113 :: L) w')) :
    Calls Tryz.prog 117 #[.pointer (some ⟨b, 0, none⟩), .int .i64 hh, .int .i64 code, .func (.func f) #[] caps] w (Ret fun v w' => ∃ a, v = .slice a (hostsN t.K hh p 8).length (hostsN t.K hh p 8).length ∧ On W0 (Own 2 (.slice a (hostsN t.K hh p 8).length (hostsN t.K hh p 8).length) (hostsN t.K hh p 8).length (notesV code (hostsN t.K hh p 8)) :: blk b t.cells 113 :: L) w') := by
  refine enter func117 rfl ntmps117 rfl ?_
  have hmx := maxLen_eq
  refine W.seq (W.region (WL.val run_assign rfl rfl (WL.nil (W.scope (W.seq (W.region (WL.val run_assign rfl rfl ?_)))))))
  refine WL.nil (W.seq (W.label (W.seq (W.seq (W.region (WL.val run_move rfl rfl (WL.val (run_nilCheck rfl) rfl rfl ?_)))))))
  refine WL.val (run_fieldAddr 0 underlying113 rfl sizeOf85 rfl rfl) rfl rfl (WL.val (run_loadB (vs := [.int .u64 _, .int .u64 _, .int .u64 _, .int .u64 _, .int .u64 _, .int .u64 _, .int .u64 _, .int .u64 _]) h isAgg85 sizeOf85 rfl rfl rfl) rfl rfl (WL.val run_move rfl rfl (WL.nil (W.block ?_))))
  refine W.loop (fun (i : Nat) env w => ∃ j a c, env = mkE j [(0, .pointer (some ⟨b, 0, none⟩)), (1, .int .i64 hh), (2, .int .i64 code), (3, .func (.func f) #[] caps), (9, .slice a (hostsN t.K hh p i).length c), (15, .agg (keysV t.K).toArray), (16, .int .i64 (i : Int))] ∧ i ≤ 8 ∧ On W0 (Own 2 (.slice a (hostsN t.K hh p i).length c) (hostsN t.K hh p i).length (notesV code (hostsN t.K hh p i)) :: blk b t.cells 113 :: L) w) (fun i => 8 - i) (0) ?_ ?_
  · exact ⟨_, none, 0, mkE_of ⟨rfl, rfl, rfl, rfl, rfl, rfl, rfl, trivial⟩, Nat.zero_le _, h.ownEmpty 2 none⟩
  rintro i env w ⟨j, a, c, rfl, hi, h⟩
  have hlen := hostsN_len t.K hh p i
  refine W.seq (W.region (WL.val (run_lss rfl rfl) rfl rfl (WL.nil (W.seq ?_))))
  refine W.condIf rfl (fun c8 => ?_) (fun c8 => ?_)
  ·
   refine W.skip (W.seq (W.block (W.seq (W.region (WL.val run_move rfl rfl (WL.val (run_indexArr underlying85 sizeOf23 isAgg23 rfl rfl (by omega) (by omega) (keysV_key (i := i) (by omega))) rfl rfl (WL.val run_assign rfl rfl ?_)))))))
   refine WL.val run_assign rfl rfl (WL.nil (W.seq (W.seq (W.region (WL.val run_move rfl rfl (WL.val run_move rfl rfl ?_))))))
   refine WL.dec (run_eql rfl rfl) rfl rfl (fun c22 => ?_) (fun c22 => ?_)
   ·
    refine WL.val run_move rfl rfl (WL.skip rfl rfl (WL.skip rfl rfl (WL.val (run_pickT rfl) rfl rfl (WL.val run_move rfl rfl (WL.skip rfl rfl (WL.skip rfl rfl (WL.skip rfl rfl ?_)))))))
    refine WL.skip rfl rfl (WL.val (run_pickT rfl) rfl rfl (WL.nil (W.condT rfl (W.exit (W.region (WL.val (run_incN rfl rfl (by omega)) rfl rfl (WL.val run_move rfl rfl ?_)))))))
    refine WL.nil ?_
    have e : hostsN t.K hh p (i + 1) = hostsN t.K hh p i := by rw [hostsN_succ, if_pos (.inl (by omega)), List.append_nil]
    exact ⟨i + 1, ⟨_, a, c, mkE_of ⟨rfl, rfl, rfl, rfl, (by rw [e]; rfl), rfl, rfl, trivial⟩, by omega, (by rw [e]; exact h.to)⟩, by show 8 - (i + 1) < 8 - i; omega⟩
   refine WL.val run_move rfl rfl (WL.val run_move rfl rfl ?_)
   refine WL.dec (run_eql rfl rfl) rfl rfl (fun c25 => ?_) (fun c25 => ?_)
   ·
    refine WL.val (run_pickF rfl) rfl rfl (WL.val run_move rfl rfl (WL.skip rfl rfl (WL.skip rfl rfl (WL.skip rfl rfl (WL.skip rfl rfl (WL.val (run_pickT rfl) rfl rfl (WL.nil ?_)))))))
    refine W.condT rfl (W.exit (W.region (WL.val (run_incN rfl rfl (by omega)) rfl rfl (WL.val run_move rfl rfl (WL.nil ?_)))))
    have e : hostsN t.K hh p (i + 1) = hostsN t.K hh p i := by rw [hostsN_succ, if_pos (.inr (.inl (by omega))), List.append_nil]
    exact ⟨i + 1, ⟨_, a, c, mkE_of ⟨rfl, rfl, rfl, rfl, (by rw [e]; rfl), rfl, rfl, trivial⟩, by omega, (by rw [e]; exact h.to)⟩, by show 8 - (i + 1) < 8 - i; omega⟩
   refine WL.val (run_pickF rfl) rfl rfl (WL.val run_move rfl rfl (WL.val run_move rfl rfl (WL.val run_move rfl rfl (WL.eff (eff_callV (xs := [_]) rfl hf (hg _ _ _ h)) rfl rfl ?_))))
   rintro _ w ⟨rfl, h⟩
   refine WL.val (run_not rfl) rfl rfl (WL.val (run_pickF rfl) rfl rfl (WL.nil ?_))
   refine W.condB rfl (fun c14 => ?_) (fun c14 => ?_)
   ·
    refine W.exit (W.region (WL.val (run_incN rfl rfl (by omega)) rfl rfl (WL.val run_move rfl rfl (WL.nil ?_))))
    have e : hostsN t.K hh p (i + 1) = hostsN t.K hh p i := by rw [hostsN_succ, if_pos (by simp at c14; exact .inr (.inr c14)), List.append_nil]
    exact ⟨i + 1, ⟨_, a, c, mkE_of ⟨rfl, rfl, rfl, rfl, (by rw [e]; rfl), rfl, rfl, trivial⟩, by omega, (by rw [e]; exact h.to)⟩, by show 8 - (i + 1) < 8 - i; omega⟩
   refine W.skip (W.region (WL.val run_move rfl rfl (WL.val run_move rfl rfl (WL.val run_move rfl rfl (WL.val (run_buildS (pl := [(0, 1), (1, 1)]) (out := [.int .i64 _, .int .i64 _]) underlying165 zeroValue165 (fun w => by kernel_rfl) rfl (⟨⟨_, _, rfl, rfl, by decide⟩, ⟨⟨_, _, rfl, rfl, by decide⟩, trivial⟩⟩) rfl) rfl rfl (WL.eff (eff_mkSlice (zl := [.int .i64 0, .int .i64 0]) (out := [.int .i64 _, .int .i64 _]) h underlying120 sizeOf165 zeroValue165 (by decide) (by kernel_rfl) rfl rfl (by simp) (⟨⟨_, _, rfl, rfl, by decide⟩, trivial⟩) rfl rfl (by simp [maxLen])) rfl rfl ?_))))))
   rintro _ w ⟨b37, rfl, h⟩
   refine WL.eff (eff_app (c2 := 1) (bytes := 16) h rfl rfl (h.cellsO (v := .slice (some ⟨b37, 0, none⟩) 1 1)) underlying120 rfl rfl rfl rfl rfl (by omega) (by omega) (by simp [Value.oneCell'])) rfl rfl ?_
   rintro _ w ⟨a38, c38, rfl, h⟩
   have h : On W0 (Own 2 (.slice a38 ((hostsN t.K hh p i).length + 1) c38) ((hostsN t.K hh p i).length + 1) (notesV code (hostsN t.K hh p i) ++ noteV code i) :: _) w := h
   refine WL.val run_assign rfl rfl (WL.nil (W.region (WL.val (run_incN rfl rfl (by omega)) rfl rfl (WL.val run_move rfl rfl (WL.nil ?_)))))
   have e : hostsN t.K hh p (i + 1) = hostsN t.K hh p i ++ [i] := by rw [hostsN_succ, if_neg (by simp at c14; rintro (h1 | h1 | h1); exact c22 h1; exact c25 h1; rw [c14] at h1; cases h1)]
   have el : (hostsN t.K hh p (i + 1)).length = (hostsN t.K hh p i).length + 1 := by rw [e, List.length_append]; rfl
   exact ⟨i + 1, ⟨_, a38, c38, mkE_of ⟨rfl, rfl, rfl, rfl, (by rw [el]; rfl), rfl, rfl, trivial⟩, by omega, (by rw [el, e, ← notesV_snoc]; exact h.to)⟩, by show 8 - (i + 1) < 8 - i; omega⟩
  refine W.exit (W.seq (W.region (WL.val run_move rfl rfl (WL.eff (eff_call call143 (clip_notes h)) rfl rfl ?_))))
  rintro _ w ⟨rfl, h⟩
  refine WL.val run_assign rfl rfl (WL.nil (W.ret (bodyQ.r1 (v := .slice _ _ _) results117 rfl ?_)))
  have ob_ : i = 8 := by omega
  obtain rfl := ob_
  exact ⟨a, rfl, h⟩
theorem drop_ok {b : Nat} {t : Tb} {hh : Int} (h : On W0 (blk b t.cells 113 :: L) w) : Calls Tryz.prog 114 #[.pointer (some ⟨b, 0, none⟩), .int .i64 hh] w (Ret fun v w' => ∃ a, v = .slice a (t.told hh).length (t.told hh).length ∧ On W0 (Own 2 (.slice a (t.told hh).length (t.told hh).length) (t.told hh).length (notesV 10756 (t.told hh)) :: blk b t.freed.cells 113 :: L) w') := by
  refine enter func114 rfl ntmps114 rfl (W.seq (W.region (WL.val run_assign rfl rfl (WL.nil (W.seq (W.region (WL.val run_assign rfl rfl ?_)))))))
  refine WL.nil (W.seq (W.seq (W.region (WL.val run_move rfl rfl (WL.eff (eff_call call60 (regs_ok h)) rfl rfl ?_)))))
  rintro _ w ⟨rfl, h⟩
  refine WL.nil ?_
  refine W.condB rfl (fun c3 => ?_) (fun c3 => ?_)
  ·
   refine W.region (WL.val run_move rfl rfl (WL.val run_move rfl rfl (WL.eff (eff_call call117 (others_ok (hh := hh) (code := 10756) (f := 118) (caps := #[]) (p := (fun _ => true)) h call118 (fun k A w h => every_ok h))) rfl rfl ?_)))
   rintro _ w ⟨a, rfl, h⟩
   have e : t.told hh = hostsN t.K hh (fun _ => true) 8 := by unfold Tb.told; rw [if_pos c3]
   rw [← e] at h
   refine WL.val run_assign rfl rfl (WL.nil (W.seq (W.region (WL.val run_move rfl rfl (WL.val run_move rfl rfl (WL.val (run_nilCheck rfl) rfl rfl (WL.val (run_fieldAddr 8 underlying113 rfl sizeOf3 rfl rfl) rfl rfl ?_)))))))
   refine WL.eff (eff_store (v := .int .i64 _) h sizeOf3 rfl rfl rfl rfl rfl) rfl rfl ?_
   rintro _ w h
   try simp only [Nat.zero_add, Nat.add_zero, List.set_cons_zero, List.set_cons_succ] at h
   refine WL.val (run_nilCheck rfl) rfl rfl (WL.val (run_fieldAddr 9 underlying113 rfl sizeOf3 rfl rfl) rfl rfl (WL.eff (eff_store (v := .int .i64 _) h sizeOf3 rfl rfl rfl rfl rfl) rfl rfl ?_))
   rintro _ w h
   try simp only [Nat.zero_add, Nat.add_zero, List.set_cons_zero, List.set_cons_succ] at h
   refine WL.nil (W.seq (W.region (WL.val run_move rfl rfl (WL.val run_assign rfl rfl (WL.nil (W.ret (bodyQ.r1 (v := .slice _ _ _) results114 rfl ?_)))))))
   exact ⟨a, by rw [e], h⟩
  have e : t.told hh = [] := by unfold Tb.told; rw [c3]; rfl
  have h := h.ownEmpty 2 none
  refine W.skip (W.seq (W.region (WL.val run_move rfl rfl (WL.val run_move rfl rfl (WL.val (run_nilCheck rfl) rfl rfl (WL.val (run_fieldAddr 8 underlying113 rfl sizeOf3 rfl rfl) rfl rfl (WL.eff (eff_store (v := .int .i64 _) h sizeOf3 rfl rfl rfl rfl rfl) rfl rfl ?_)))))))
  rintro _ w h
  try simp only [Nat.zero_add, Nat.add_zero, List.set_cons_zero, List.set_cons_succ] at h
  refine WL.val (run_nilCheck rfl) rfl rfl (WL.val (run_fieldAddr 9 underlying113 rfl sizeOf3 rfl rfl) rfl rfl (WL.eff (eff_store (v := .int .i64 _) h sizeOf3 rfl rfl rfl rfl rfl) rfl rfl ?_))
  rintro _ w h
  try simp only [Nat.zero_add, Nat.add_zero, List.set_cons_zero, List.set_cons_succ] at h
  refine WL.nil (W.seq (W.region (WL.val run_move rfl rfl (WL.val run_assign rfl rfl (WL.nil (W.ret (bodyQ.r1 (v := .slice _ _ _) results114 rfl ?_)))))))
  rw [e]
  exact ⟨none, rfl, h⟩
end Go.Proofs.YtjbgiingimhnnaaGreat
/-
  The contracts of reservations. Lines of walks printed by a program of the prover's.
-/
namespace Go.Proofs.YtjbgiingimhnnaaGreat
open Go.Proofs.Tryz
open Go Go.Sl Go.Sl.RsM
set_option linter.unusedVariables false
set_option linter.unusedSimpArgs false
set_option maxHeartbeats 1000000
set_option maxRecDepth 8000
variable {W0 w : World} {L F : List HProp}
theorem holder_ok {b : Nat} {t : Tb} (h : On W0 (blk b t.cells 113 :: L) w) : Calls Tryz.prog 74 #[.pointer (some ⟨b, 0, none⟩)] w (Ret fun v w' => v = .tuple #[.int .i64 t.hold, .int .i64 t.typ] ∧ On W0 (blk b t.cells 113 :: L) w') := by
  refine enter func74 rfl ntmps74 rfl (W.seq (W.region (WL.val run_assign rfl rfl (WL.val run_assign rfl rfl (WL.nil (W.seq ?_))))))
  refine W.draw Tryz.follows h (fun w h => ?_)
  refine WT.pure 0 rfl (by kernel_rfl) (fun w' => run_move) rfl rfl (WT.pure 1 rfl (by kernel_rfl) (fun w' => (run_nilCheck rfl)) rfl rfl (WT.pure 2 rfl (by kernel_rfl) (fun w' => (run_fieldAddr 8 underlying113 rfl sizeOf3 rfl rfl)) rfl rfl (WT.load1 3 rfl (by kernel_rfl) isAgg3 rfl (h.cellB rfl) rfl rfl (WT.pure 4 rfl (by kernel_rfl) (fun w' => run_move) rfl rfl (WT.pure 5 rfl (by kernel_rfl) (fun w' => (run_nilCheck rfl)) rfl rfl (WT.pure 6 rfl (by kernel_rfl) (fun w' => (run_fieldAddr 9 underlying113 rfl sizeOf3 rfl rfl)) rfl rfl (WT.load1 7 rfl (by kernel_rfl) isAgg3 rfl (h.cellB rfl) rfl rfl ?_)))))))
  refine WT.pure 8 rfl (by kernel_rfl) (fun w' => run_assign) rfl rfl (WT.pure 9 rfl (by kernel_rfl) (fun w' => run_assign) rfl rfl (WT.done (by kernel_rfl) (W.ret (bodyQ.r2 (v1 := .int .i64 _) (v2 := .int .i64 _) results74 rfl rfl ?_))))
  exact ⟨rfl, h⟩
theorem generation_ok {b : Nat} {t : Tb} (h : On W0 (blk b t.cells 113 :: L) w) : Calls Tryz.prog 72 #[.pointer (some ⟨b, 0, none⟩)] w (Ret fun v w' => v = .int .u32 t.gen ∧ On W0 (blk b t.cells 113 :: L) w') := by
  refine enter func72 rfl ntmps72 rfl (W.seq (W.region (WL.val run_assign rfl rfl (WL.nil (W.seq (W.region (WL.val run_move rfl rfl ?_)))))))
  refine WL.val (run_nilCheck rfl) rfl rfl (WL.val (run_fieldAddr 10 underlying113 rfl sizeOf111 rfl rfl) rfl rfl (WL.val (run_load1 isAgg111 rfl (h.cellB rfl)) rfl rfl (WL.val run_assign rfl rfl (WL.nil (W.ret (bodyQ.r1 (v := .int .u32 _) results72 rfl ?_))))))
  exact ⟨rfl, h⟩
theorem rnew_ok (h : On W0 L w) : Calls Tryz.prog 33 #[] w (Ret fun v w' => ∃ b, v = .pointer (some ⟨b, 0, none⟩) ∧ On W0 (blk b newT.cells 113 :: L) w') := by
  refine enter func33 rfl ntmps33 rfl (W.seq (W.region (WL.val run_assign rfl rfl (WL.nil (W.seq (W.region (WL.val (run_buildS (pl := [(0, 8), (8, 1), (9, 1), (10, 1)]) (out := [.int .u64 _, .int .u64 _, .int .u64 _, .int .u64 _, .int .u64 _, .int .u64 _, .int .u64 _, .int .u64 _, .int .i64 _, .int .i64 _, .int .u32 _]) underlying113 zeroValue113 (fun w => by kernel_rfl) rfl (⟨⟨_, _, rfl, rfl, by decide⟩, trivial⟩) rfl) rfl rfl ?_)))))))
  refine WL.eff (eff_box (v := .agg _) (l := [.int .u64 _, .int .u64 _, .int .u64 _, .int .u64 _, .int .u64 _, .int .u64 _, .int .u64 _, .int .u64 _, .int .i64 _, .int .i64 _, .int .u32 _]) h rfl rfl) rfl rfl ?_
  rintro _ w ⟨b2, rfl, h⟩
  refine WL.val run_assign rfl rfl (WL.nil (W.ret (bodyQ.r1 (v := .pointer _) results33 rfl ?_)))
  exact ⟨_, rfl, h⟩
theorem allows_ok {b : Nat} {t : Tb} {hh kind : Int} (h : On W0 (blk b t.cells 113 :: L) w) : Calls Tryz.prog 30 #[.pointer (some ⟨b, 0, none⟩), .int .i64 hh, .int .i64 kind] w (Ret fun v w' => (∃ r : Bool, v = .bool r ∧ (r = true ↔ allowP t hh kind)) ∧ On W0 (blk b t.cells 113 :: L) w') := by
  refine enter func30 rfl ntmps30 rfl (W.seq (W.region (WL.val run_assign rfl rfl (WL.nil (W.seq (W.block (W.seq ?_)))))))
  refine W.region (WL.val run_move rfl rfl (WL.val (run_nilCheck rfl) rfl rfl (WL.val (run_fieldAddr 8 underlying113 rfl sizeOf3 rfl rfl) rfl rfl (WL.val (run_load1 isAgg3 rfl (h.cellB rfl)) rfl rfl ?_))))
  refine WL.dec (run_eql rfl rfl) rfl rfl (fun c12 => ?_) (fun c12 => ?_)
  ·
   refine WL.val run_move rfl rfl (WL.skip rfl rfl (WL.skip rfl rfl (WL.skip rfl rfl (WL.skip rfl rfl (WL.skip rfl rfl (WL.skip rfl rfl (WL.val (run_pickT rfl) rfl rfl ?_)))))))
   refine WL.val run_move rfl rfl (WL.skip rfl rfl (WL.skip rfl rfl (WL.skip rfl rfl (WL.skip rfl rfl (WL.skip rfl rfl (WL.skip rfl rfl (WL.skip rfl rfl ?_)))))))
   refine WL.skip rfl rfl (WL.skip rfl rfl (WL.skip rfl rfl (WL.skip rfl rfl (WL.skip rfl rfl (WL.skip rfl rfl (WL.skip rfl rfl (WL.skip rfl rfl ?_)))))))
   refine WL.val (run_pickT rfl) rfl rfl (WL.val run_assign rfl rfl (WL.nil (W.condT rfl (W.seq (W.region (WL.val run_assign rfl rfl (WL.nil ?_)))))))
   refine W.ret (bodyQ.r1 (v := .bool _) results30 rfl ?_)
   exact ⟨⟨_, rfl, iff_of_true rfl (.inl (.inl c12))⟩, h⟩
  refine WL.val run_move rfl rfl (WL.val run_move rfl rfl (WL.val (run_nilCheck rfl) rfl rfl (WL.val (run_fieldAddr 8 underlying113 rfl sizeOf3 rfl rfl) rfl rfl (WL.val (run_load1 isAgg3 rfl (h.cellB rfl)) rfl rfl (WL.val run_move rfl rfl ?_)))))
  refine WL.dec (run_eql rfl rfl) rfl rfl (fun c19 => ?_) (fun c19 => ?_)
  ·
   refine WL.val (run_pickF rfl) rfl rfl (WL.val run_move rfl rfl (WL.skip rfl rfl (WL.skip rfl rfl (WL.skip rfl rfl (WL.skip rfl rfl (WL.skip rfl rfl (WL.skip rfl rfl ?_)))))))
   refine WL.skip rfl rfl (WL.skip rfl rfl (WL.skip rfl rfl (WL.skip rfl rfl (WL.skip rfl rfl (WL.skip rfl rfl (WL.skip rfl rfl (WL.skip rfl rfl ?_)))))))
   refine WL.skip rfl rfl (WL.val (run_pickT rfl) rfl rfl (WL.val run_assign rfl rfl (WL.nil (W.condT rfl (W.seq (W.region (WL.val run_assign rfl rfl ?_)))))))
   refine WL.nil (W.ret (bodyQ.r1 (v := .bool _) results30 rfl ?_))
   exact ⟨⟨_, rfl, iff_of_true rfl (.inl (.inr (.inl c19)))⟩, h⟩
  refine WL.val (run_pickF rfl) rfl rfl (WL.val run_move rfl rfl (WL.val run_move rfl rfl (WL.eff (eff_call call60 (regs_ok h)) rfl rfl ?_)))
  rintro _ w ⟨hv, h⟩
  have hcs := Bool.eq_false_or_eq_true (t.regsB)
  rcases hcs with hrg | hrg <;> (rw [hrg] at hv; subst hv)
  ·
   refine WL.val run_move rfl rfl (WL.val run_move rfl rfl (WL.eff (eff_call call61 (host_ok h)) rfl rfl ?_))
   rintro _ w ⟨hv, h⟩
   have hcs := Bool.eq_false_or_eq_true (hostB hh)
   rcases hcs with hb | hb <;> (rw [hb] at hv; subst hv)
   ·
    refine WL.val (run_pickT rfl) rfl rfl (WL.val run_move rfl rfl ?_)
    have ob_ := hostB_iff.1 hb
    obtain ⟨hi0, hi8⟩ := ob_
    have ob_ := Int.eq_ofNat_of_zero_le hi0
    obtain ⟨i, rfl⟩ := ob_
    have hi : i < 8 := by omega
    refine WL.val run_move rfl rfl (WL.val run_move rfl rfl (WL.val (run_nilCheck rfl) rfl rfl (WL.val (run_fieldAddr 0 underlying113 rfl sizeOf85 rfl rfl) rfl rfl (WL.val (run_indexAddrArr underlying85 sizeOf23 rfl rfl (by omega) (by omega)) rfl rfl (WL.val (run_load1 isAgg23 rfl (h.cellB (cells_at hi))) rfl rfl ?_)))))
    refine WL.dec (run_neq rfl rfl) rfl rfl (fun c35 => ?_) (fun c35 => ?_)
    ·
     refine WL.val (run_pickT rfl) rfl rfl (WL.val (run_pickF rfl) rfl rfl (WL.val run_assign rfl rfl (WL.nil (W.condT rfl (W.seq (W.region (WL.val run_assign rfl rfl ?_)))))))
     refine WL.nil (W.ret (bodyQ.r1 (v := .bool _) results30 rfl ?_))
     exact ⟨⟨_, rfl, iff_of_true rfl (.inl (.inr (.inr ⟨hrg, i, rfl, hi, c35⟩)))⟩, h⟩
    refine WL.val (run_pickT rfl) rfl rfl (WL.val (run_pickF rfl) rfl rfl (WL.val run_assign rfl rfl (WL.nil (W.condF rfl (W.skip (W.seq (W.seq ?_)))))))
    have hal : ¬ alwP t (i : Int) := by
      rintro (h1 | h1 | ⟨h1, j, hj, h2, h3⟩)
      · exact c12 h1
      · exact c19 h1
      · have hij : i = j := Int.ofNat.inj hj
        subst hij
        exact c35 h3
    refine W.region (WL.val run_move rfl rfl (WL.nil (W.block (W.seq (W.seq (W.region (WL.val (run_eql rfl rfl) rfl rfl ?_)))))))
    refine WL.val run_assign rfl rfl (WL.nil ?_)
    refine W.condIf rfl (fun c10 => ?_) (fun c10 => ?_)
    ·
     refine W.skip ?_
     refine W.condIf rfl (fun c13 => ?_) (fun c13 => ?_)
     ·
      refine W.seq (W.region (WL.val run_move rfl rfl (WL.val (run_nilCheck rfl) rfl rfl (WL.val (run_fieldAddr 9 underlying113 rfl sizeOf3 rfl rfl) rfl rfl (WL.val (run_load1 isAgg3 rfl (h.cellB rfl)) rfl rfl ?_)))))
      refine WL.dec (run_eql rfl rfl) rfl rfl (fun c46 => ?_) (fun c46 => ?_)
      ·
       refine WL.val run_move rfl rfl (WL.skip rfl rfl (WL.skip rfl rfl (WL.skip rfl rfl (WL.skip rfl rfl (WL.skip rfl rfl (WL.val (run_pickT rfl) rfl rfl (WL.val run_assign rfl rfl ?_)))))))
       refine WL.nil (W.ret (bodyQ.r1 (v := .bool _) results30 rfl ?_))
       refine ⟨⟨_, rfl, ?_⟩, h⟩
       unfold allowP
       simp only [hal, false_or]
       first
       | (exfalso; omega)
       | (refine iff_of_true trivial ?_; omega)
       | (refine iff_of_false (by decide) ?_; omega)
       | (rw [decide_eq_true_iff]; omega)
      refine WL.val run_move rfl rfl (WL.val run_move rfl rfl (WL.val (run_nilCheck rfl) rfl rfl (WL.val (run_fieldAddr 9 underlying113 rfl sizeOf3 rfl rfl) rfl rfl (WL.val (run_load1 isAgg3 rfl (h.cellB rfl)) rfl rfl (WL.val (run_eql rfl rfl) rfl rfl (WL.val (run_pickF rfl) rfl rfl (WL.val run_assign rfl rfl ?_)))))))
      refine WL.nil (W.ret (bodyQ.r1 (v := .bool _) results30 rfl ?_))
      refine ⟨⟨_, rfl, ?_⟩, h⟩
      unfold allowP
      simp only [hal, false_or]
      first
      | (exfalso; omega)
      | (refine iff_of_true trivial ?_; omega)
      | (refine iff_of_false (by decide) ?_; omega)
      | (rw [decide_eq_true_iff]; omega)
     refine W.seq (W.seq (W.region (WL.val (run_eql rfl rfl) rfl rfl (WL.val run_assign rfl rfl (WL.nil ?_)))))
     refine W.condIf rfl (fun c17 => ?_) (fun c17 => ?_)
     ·
      refine W.skip ?_
      refine W.condIf rfl (fun c26 => ?_) (fun c26 => ?_)
      ·
       refine W.seq (W.region (WL.val run_assign rfl rfl (WL.nil (W.ret (bodyQ.r1 (v := .bool _) results30 rfl ?_)))))
       refine ⟨⟨_, rfl, ?_⟩, h⟩
       unfold allowP
       simp only [hal, false_or]
       first
       | (exfalso; omega)
       | (refine iff_of_true trivial ?_; omega)
       | (refine iff_of_false (by decide) ?_; omega)
       | (rw [decide_eq_true_iff]; omega)
      refine W.skip (W.seq (W.region (WL.val run_assign rfl rfl (WL.nil (W.ret (bodyQ.r1 (v := .bool _) results30 rfl ?_))))))
      refine ⟨⟨_, rfl, ?_⟩, h⟩
      unfold allowP
      simp only [hal, false_or]
      first
      | (exfalso; omega)
      | (refine iff_of_true trivial ?_; omega)
      | (refine iff_of_false (by decide) ?_; omega)
      | (rw [decide_eq_true_iff]; omega)
     refine W.seq (W.region (WL.val (run_eql rfl rfl) rfl rfl (WL.val run_assign rfl rfl (WL.nil ?_))))
     refine W.condIf rfl (fun c20 => ?_) (fun c20 => ?_)
     ·
      refine W.skip ?_
      refine W.condIf rfl (fun c26 => ?_) (fun c26 => ?_)
      ·
       refine W.seq (W.region (WL.val run_assign rfl rfl (WL.nil (W.ret (bodyQ.r1 (v := .bool _) results30 rfl ?_)))))
       refine ⟨⟨_, rfl, ?_⟩, h⟩
       unfold allowP
       simp only [hal, false_or]
       first
       | (exfalso; omega)
       | (refine iff_of_true trivial ?_; omega)
       | (refine iff_of_false (by decide) ?_; omega)
       | (rw [decide_eq_true_iff]; omega)
      refine W.skip (W.seq (W.region (WL.val run_assign rfl rfl (WL.nil (W.ret (bodyQ.r1 (v := .bool _) results30 rfl ?_))))))
      refine ⟨⟨_, rfl, ?_⟩, h⟩
      unfold allowP
      simp only [hal, false_or]
      first
      | (exfalso; omega)
      | (refine iff_of_true trivial ?_; omega)
      | (refine iff_of_false (by decide) ?_; omega)
      | (rw [decide_eq_true_iff]; omega)
     refine W.seq (W.region (WL.val (run_eql rfl rfl) rfl rfl (WL.val run_assign rfl rfl (WL.nil ?_))))
     refine W.condIf rfl (fun c23 => ?_) (fun c23 => ?_)
     ·
      refine W.skip ?_
      refine W.condIf rfl (fun c26 => ?_) (fun c26 => ?_)
      ·
       refine W.seq (W.region (WL.val run_assign rfl rfl (WL.nil (W.ret (bodyQ.r1 (v := .bool _) results30 rfl ?_)))))
       refine ⟨⟨_, rfl, ?_⟩, h⟩
       unfold allowP
       simp only [hal, false_or]
       first
       | (exfalso; omega)
       | (refine iff_of_true trivial ?_; omega)
       | (refine iff_of_false (by decide) ?_; omega)
       | (rw [decide_eq_true_iff]; omega)
      refine W.skip (W.seq (W.region (WL.val run_assign rfl rfl (WL.nil (W.ret (bodyQ.r1 (v := .bool _) results30 rfl ?_))))))
      refine ⟨⟨_, rfl, ?_⟩, h⟩
      unfold allowP
      simp only [hal, false_or]
      first
      | (exfalso; omega)
      | (refine iff_of_true trivial ?_; omega)
      | (refine iff_of_false (by decide) ?_; omega)
      | (rw [decide_eq_true_iff]; omega)
     refine W.region (WL.val (run_eql rfl rfl) rfl rfl (WL.val run_assign rfl rfl (WL.nil ?_)))
     refine W.condIf rfl (fun c26 => ?_) (fun c26 => ?_)
     ·
      refine W.seq (W.region (WL.val run_assign rfl rfl (WL.nil (W.ret (bodyQ.r1 (v := .bool _) results30 rfl ?_)))))
      refine ⟨⟨_, rfl, ?_⟩, h⟩
      unfold allowP
      simp only [hal, false_or]
      first
      | (exfalso; omega)
      | (refine iff_of_true trivial ?_; omega)
      | (refine iff_of_false (by decide) ?_; omega)
      | (rw [decide_eq_true_iff]; omega)
     refine W.skip (W.seq (W.region (WL.val run_assign rfl rfl (WL.nil (W.ret (bodyQ.r1 (v := .bool _) results30 rfl ?_))))))
     refine ⟨⟨_, rfl, ?_⟩, h⟩
     unfold allowP
     simp only [hal, false_or]
     first
     | (exfalso; omega)
     | (refine iff_of_true trivial ?_; omega)
     | (refine iff_of_false (by decide) ?_; omega)
     | (rw [decide_eq_true_iff]; omega)
    refine W.region (WL.val (run_eql rfl rfl) rfl rfl (WL.val run_assign rfl rfl (WL.nil ?_)))
    refine W.condIf rfl (fun c13 => ?_) (fun c13 => ?_)
    ·
     refine W.seq (W.region (WL.val run_move rfl rfl (WL.val (run_nilCheck rfl) rfl rfl (WL.val (run_fieldAddr 9 underlying113 rfl sizeOf3 rfl rfl) rfl rfl (WL.val (run_load1 isAgg3 rfl (h.cellB rfl)) rfl rfl ?_)))))
     refine WL.dec (run_eql rfl rfl) rfl rfl (fun c46 => ?_) (fun c46 => ?_)
     ·
      refine WL.val run_move rfl rfl (WL.skip rfl rfl (WL.skip rfl rfl (WL.skip rfl rfl (WL.skip rfl rfl (WL.skip rfl rfl (WL.val (run_pickT rfl) rfl rfl (WL.val run_assign rfl rfl ?_)))))))
      refine WL.nil (W.ret (bodyQ.r1 (v := .bool _) results30 rfl ?_))
      refine ⟨⟨_, rfl, ?_⟩, h⟩
      unfold allowP
      simp only [hal, false_or]
      first
      | (exfalso; omega)
      | (refine iff_of_true trivial ?_; omega)
      | (refine iff_of_false (by decide) ?_; omega)
      | (rw [decide_eq_true_iff]; omega)
     refine WL.val run_move rfl rfl (WL.val run_move rfl rfl (WL.val (run_nilCheck rfl) rfl rfl (WL.val (run_fieldAddr 9 underlying113 rfl sizeOf3 rfl rfl) rfl rfl (WL.val (run_load1 isAgg3 rfl (h.cellB rfl)) rfl rfl (WL.val (run_eql rfl rfl) rfl rfl (WL.val (run_pickF rfl) rfl rfl (WL.val run_assign rfl rfl ?_)))))))
     refine WL.nil (W.ret (bodyQ.r1 (v := .bool _) results30 rfl ?_))
     refine ⟨⟨_, rfl, ?_⟩, h⟩
     unfold allowP
     simp only [hal, false_or]
     first
     | (exfalso; omega)
     | (refine iff_of_true trivial ?_; omega)
     | (refine iff_of_false (by decide) ?_; omega)
     | (rw [decide_eq_true_iff]; omega)
    refine W.seq (W.seq (W.region (WL.val (run_eql rfl rfl) rfl rfl (WL.val run_assign rfl rfl (WL.nil ?_)))))
    refine W.condIf rfl (fun c17 => ?_) (fun c17 => ?_)
    ·
     refine W.skip ?_
     refine W.condIf rfl (fun c26 => ?_) (fun c26 => ?_)
     ·
      refine W.seq (W.region (WL.val run_assign rfl rfl (WL.nil (W.ret (bodyQ.r1 (v := .bool _) results30 rfl ?_)))))
      refine ⟨⟨_, rfl, ?_⟩, h⟩
      unfold allowP
      simp only [hal, false_or]
      first
      | (exfalso; omega)
      | (refine iff_of_true trivial ?_; omega)
      | (refine iff_of_false (by decide) ?_; omega)
      | (rw [decide_eq_true_iff]; omega)
     refine W.skip (W.seq (W.region (WL.val run_assign rfl rfl (WL.nil (W.ret (bodyQ.r1 (v := .bool _) results30 rfl ?_))))))
     refine ⟨⟨_, rfl, ?_⟩, h⟩
     unfold allowP
     simp only [hal, false_or]
     first
     | (exfalso; omega)
     | (refine iff_of_true trivial ?_; omega)
     | (refine iff_of_false (by decide) ?_; omega)
     | (rw [decide_eq_true_iff]; omega)
    refine W.seq (W.region (WL.val (run_eql rfl rfl) rfl rfl (WL.val run_assign rfl rfl (WL.nil ?_))))
    refine W.condIf rfl (fun c20 => ?_) (fun c20 => ?_)
    ·
     refine W.skip ?_
     refine W.condIf rfl (fun c26 => ?_) (fun c26 => ?_)
     ·
      refine W.seq (W.region (WL.val run_assign rfl rfl (WL.nil (W.ret (bodyQ.r1 (v := .bool _) results30 rfl ?_)))))
      refine ⟨⟨_, rfl, ?_⟩, h⟩
      unfold allowP
      simp only [hal, false_or]
      first
      | (exfalso; omega)
      | (refine iff_of_true trivial ?_; omega)
      | (refine iff_of_false (by decide) ?_; omega)
      | (rw [decide_eq_true_iff]; omega)
     refine W.skip (W.seq (W.region (WL.val run_assign rfl rfl (WL.nil (W.ret (bodyQ.r1 (v := .bool _) results30 rfl ?_))))))
     refine ⟨⟨_, rfl, ?_⟩, h⟩
     unfold allowP
     simp only [hal, false_or]
     first
     | (exfalso; omega)
     | (refine iff_of_true trivial ?_; omega)
     | (refine iff_of_false (by decide) ?_; omega)
     | (rw [decide_eq_true_iff]; omega)
    refine W.seq (W.region (WL.val (run_eql rfl rfl) rfl rfl (WL.val run_assign rfl rfl (WL.nil ?_))))
    refine W.condIf rfl (fun c23 => ?_) (fun c23 => ?_)
    ·
     refine W.skip ?_
     refine W.condIf rfl (fun c26 => ?_) (fun c26 => ?_)
     ·
      refine W.seq (W.region (WL.val run_assign rfl rfl (WL.nil (W.ret (bodyQ.r1 (v := .bool _) results30 rfl ?_)))))
      refine ⟨⟨_, rfl, ?_⟩, h⟩
      unfold allowP
      simp only [hal, false_or]
      first
      | (exfalso; omega)
      | (refine iff_of_true trivial ?_; omega)
      | (refine iff_of_false (by decide) ?_; omega)
      | (rw [decide_eq_true_iff]; omega)
     refine W.skip (W.seq (W.region (WL.val run_assign rfl rfl (WL.nil (W.ret (bodyQ.r1 (v := .bool _) results30 rfl ?_))))))
     refine ⟨⟨_, rfl, ?_⟩, h⟩
     unfold allowP
     simp only [hal, false_or]
     first
     | (exfalso; omega)
     | (refine iff_of_true trivial ?_; omega)
     | (refine iff_of_false (by decide) ?_; omega)
     | (rw [decide_eq_true_iff]; omega)
    refine W.region (WL.val (run_eql rfl rfl) rfl rfl (WL.val run_assign rfl rfl (WL.nil ?_)))
    refine W.condIf rfl (fun c26 => ?_) (fun c26 => ?_)
    ·
     refine W.seq (W.region (WL.val run_assign rfl rfl (WL.nil (W.ret (bodyQ.r1 (v := .bool _) results30 rfl ?_)))))
     refine ⟨⟨_, rfl, ?_⟩, h⟩
     unfold allowP
     simp only [hal, false_or]
     first
     | (exfalso; omega)
     | (refine iff_of_true trivial ?_; omega)
     | (refine iff_of_false (by decide) ?_; omega)
     | (rw [decide_eq_true_iff]; omega)
    refine W.skip (W.seq (W.region (WL.val run_assign rfl rfl (WL.nil (W.ret (bodyQ.r1 (v := .bool _) results30 rfl ?_))))))
    refine ⟨⟨_, rfl, ?_⟩, h⟩
    unfold allowP
    simp only [hal, false_or]
    first
    | (exfalso; omega)
    | (refine iff_of_true trivial ?_; omega)
    | (refine iff_of_false (by decide) ?_; omega)
    | (rw [decide_eq_true_iff]; omega)
   refine WL.val (run_pickT rfl) rfl rfl (WL.val run_move rfl rfl (WL.skip rfl rfl (WL.skip rfl rfl (WL.skip rfl rfl (WL.skip rfl rfl (WL.skip rfl rfl (WL.skip rfl rfl ?_)))))))
   refine WL.skip rfl rfl (WL.val (run_pickF rfl) rfl rfl (WL.val (run_pickF rfl) rfl rfl (WL.val run_assign rfl rfl (WL.nil (W.condF rfl (W.skip (W.seq ?_)))))))
   refine W.seq ?_
   have hal : ¬ alwP t hh := by
     rintro (h1 | h1 | ⟨h1, j, hj, h2, h3⟩)
     · exact c12 h1
     · exact c19 h1
     · have hb2 := hostB_no.1 hb; omega
   refine W.region (WL.val run_move rfl rfl (WL.nil (W.block (W.seq (W.seq (W.region (WL.val (run_eql rfl rfl) rfl rfl ?_)))))))
   refine WL.val run_assign rfl rfl (WL.nil ?_)
   refine W.condIf rfl (fun c10 => ?_) (fun c10 => ?_)
   ·
    refine W.skip ?_
    refine W.condIf rfl (fun c13 => ?_) (fun c13 => ?_)
    ·
     refine W.seq (W.region (WL.val run_move rfl rfl (WL.val (run_nilCheck rfl) rfl rfl (WL.val (run_fieldAddr 9 underlying113 rfl sizeOf3 rfl rfl) rfl rfl (WL.val (run_load1 isAgg3 rfl (h.cellB rfl)) rfl rfl ?_)))))
     refine WL.dec (run_eql rfl rfl) rfl rfl (fun c46 => ?_) (fun c46 => ?_)
     ·
      refine WL.val run_move rfl rfl (WL.skip rfl rfl (WL.skip rfl rfl (WL.skip rfl rfl (WL.skip rfl rfl (WL.skip rfl rfl (WL.val (run_pickT rfl) rfl rfl (WL.val run_assign rfl rfl ?_)))))))
      refine WL.nil (W.ret (bodyQ.r1 (v := .bool _) results30 rfl ?_))
      refine ⟨⟨_, rfl, ?_⟩, h⟩
      unfold allowP
      simp only [hal, false_or]
      first
      | (exfalso; omega)
      | (refine iff_of_true trivial ?_; omega)
      | (refine iff_of_false (by decide) ?_; omega)
      | (rw [decide_eq_true_iff]; omega)
     refine WL.val run_move rfl rfl (WL.val run_move rfl rfl (WL.val (run_nilCheck rfl) rfl rfl (WL.val (run_fieldAddr 9 underlying113 rfl sizeOf3 rfl rfl) rfl rfl (WL.val (run_load1 isAgg3 rfl (h.cellB rfl)) rfl rfl (WL.val (run_eql rfl rfl) rfl rfl (WL.val (run_pickF rfl) rfl rfl (WL.val run_assign rfl rfl ?_)))))))
     refine WL.nil (W.ret (bodyQ.r1 (v := .bool _) results30 rfl ?_))
     refine ⟨⟨_, rfl, ?_⟩, h⟩
     unfold allowP
     simp only [hal, false_or]
     first
     | (exfalso; omega)
     | (refine iff_of_true trivial ?_; omega)
     | (refine iff_of_false (by decide) ?_; omega)
     | (rw [decide_eq_true_iff]; omega)
    refine W.seq (W.seq (W.region (WL.val (run_eql rfl rfl) rfl rfl (WL.val run_assign rfl rfl (WL.nil ?_)))))
    refine W.condIf rfl (fun c17 => ?_) (fun c17 => ?_)
    ·
     refine W.skip ?_
     refine W.condIf rfl (fun c26 => ?_) (fun c26 => ?_)
     ·
      refine W.seq (W.region (WL.val run_assign rfl rfl (WL.nil (W.ret (bodyQ.r1 (v := .bool _) results30 rfl ?_)))))
      refine ⟨⟨_, rfl, ?_⟩, h⟩
      unfold allowP
      simp only [hal, false_or]
      first
      | (exfalso; omega)
      | (refine iff_of_true trivial ?_; omega)
      | (refine iff_of_false (by decide) ?_; omega)
      | (rw [decide_eq_true_iff]; omega)
     refine W.skip (W.seq (W.region (WL.val run_assign rfl rfl (WL.nil (W.ret (bodyQ.r1 (v := .bool _) results30 rfl ?_))))))
     refine ⟨⟨_, rfl, ?_⟩, h⟩
     unfold allowP
     simp only [hal, false_or]
     first
     | (exfalso; omega)
     | (refine iff_of_true trivial ?_; omega)
     | (refine iff_of_false (by decide) ?_; omega)
     | (rw [decide_eq_true_iff]; omega)
    refine W.seq (W.region (WL.val (run_eql rfl rfl) rfl rfl (WL.val run_assign rfl rfl (WL.nil ?_))))
    refine W.condIf rfl (fun c20 => ?_) (fun c20 => ?_)
    ·
     refine W.skip ?_
     refine W.condIf rfl (fun c26 => ?_) (fun c26 => ?_)
     ·
      refine W.seq (W.region (WL.val run_assign rfl rfl (WL.nil (W.ret (bodyQ.r1 (v := .bool _) results30 rfl ?_)))))
      refine ⟨⟨_, rfl, ?_⟩, h⟩
      unfold allowP
      simp only [hal, false_or]
      first
      | (exfalso; omega)
      | (refine iff_of_true trivial ?_; omega)
      | (refine iff_of_false (by decide) ?_; omega)
      | (rw [decide_eq_true_iff]; omega)
     refine W.skip (W.seq (W.region (WL.val run_assign rfl rfl (WL.nil (W.ret (bodyQ.r1 (v := .bool _) results30 rfl ?_))))))
     refine ⟨⟨_, rfl, ?_⟩, h⟩
     unfold allowP
     simp only [hal, false_or]
     first
     | (exfalso; omega)
     | (refine iff_of_true trivial ?_; omega)
     | (refine iff_of_false (by decide) ?_; omega)
     | (rw [decide_eq_true_iff]; omega)
    refine W.seq (W.region (WL.val (run_eql rfl rfl) rfl rfl (WL.val run_assign rfl rfl (WL.nil ?_))))
    refine W.condIf rfl (fun c23 => ?_) (fun c23 => ?_)
    ·
     refine W.skip ?_
     refine W.condIf rfl (fun c26 => ?_) (fun c26 => ?_)
     ·
      refine W.seq (W.region (WL.val run_assign rfl rfl (WL.nil (W.ret (bodyQ.r1 (v := .bool _) results30 rfl ?_)))))
      refine ⟨⟨_, rfl, ?_⟩, h⟩
      unfold allowP
      simp only [hal, false_or]
      first
      | (exfalso; omega)
      | (refine iff_of_true trivial ?_; omega)
      | (refine iff_of_false (by decide) ?_; omega)
      | (rw [decide_eq_true_iff]; omega)
     refine W.skip (W.seq (W.region (WL.val run_assign rfl rfl (WL.nil (W.ret (bodyQ.r1 (v := .bool _) results30 rfl ?_))))))
     refine ⟨⟨_, rfl, ?_⟩, h⟩
     unfold allowP
     simp only [hal, false_or]
     first
     | (exfalso; omega)
     | (refine iff_of_true trivial ?_; omega)
     | (refine iff_of_false (by decide) ?_; omega)
     | (rw [decide_eq_true_iff]; omega)
    refine W.region (WL.val (run_eql rfl rfl) rfl rfl (WL.val run_assign rfl rfl (WL.nil ?_)))
    refine W.condIf rfl (fun c26 => ?_) (fun c26 => ?_)
    ·
     refine W.seq (W.region (WL.val run_assign rfl rfl (WL.nil (W.ret (bodyQ.r1 (v := .bool _) results30 rfl ?_)))))
     refine ⟨⟨_, rfl, ?_⟩, h⟩
     unfold allowP
     simp only [hal, false_or]
     first
     | (exfalso; omega)
     | (refine iff_of_true trivial ?_; omega)
     | (refine iff_of_false (by decide) ?_; omega)
     | (rw [decide_eq_true_iff]; omega)
    refine W.skip (W.seq (W.region (WL.val run_assign rfl rfl (WL.nil (W.ret (bodyQ.r1 (v := .bool _) results30 rfl ?_))))))
    refine ⟨⟨_, rfl, ?_⟩, h⟩
    unfold allowP
    simp only [hal, false_or]
    first
    | (exfalso; omega)
    | (refine iff_of_true trivial ?_; omega)
    | (refine iff_of_false (by decide) ?_; omega)
    | (rw [decide_eq_true_iff]; omega)
   refine W.region (WL.val (run_eql rfl rfl) rfl rfl (WL.val run_assign rfl rfl (WL.nil ?_)))
   refine W.condIf rfl (fun c13 => ?_) (fun c13 => ?_)
   ·
    refine W.seq (W.region (WL.val run_move rfl rfl (WL.val (run_nilCheck rfl) rfl rfl (WL.val (run_fieldAddr 9 underlying113 rfl sizeOf3 rfl rfl) rfl rfl (WL.val (run_load1 isAgg3 rfl (h.cellB rfl)) rfl rfl ?_)))))
    refine WL.dec (run_eql rfl rfl) rfl rfl (fun c46 => ?_) (fun c46 => ?_)
    ·
     refine WL.val run_move rfl rfl (WL.skip rfl rfl (WL.skip rfl rfl (WL.skip rfl rfl (WL.skip rfl rfl (WL.skip rfl rfl (WL.val (run_pickT rfl) rfl rfl (WL.val run_assign rfl rfl ?_)))))))
     refine WL.nil (W.ret (bodyQ.r1 (v := .bool _) results30 rfl ?_))
     refine ⟨⟨_, rfl, ?_⟩, h⟩
     unfold allowP
     simp only [hal, false_or]
     first
     | (exfalso; omega)
     | (refine iff_of_true trivial ?_; omega)
     | (refine iff_of_false (by decide) ?_; omega)
     | (rw [decide_eq_true_iff]; omega)
    refine WL.val run_move rfl rfl (WL.val run_move rfl rfl (WL.val (run_nilCheck rfl) rfl rfl (WL.val (run_fieldAddr 9 underlying113 rfl sizeOf3 rfl rfl) rfl rfl (WL.val (run_load1 isAgg3 rfl (h.cellB rfl)) rfl rfl (WL.val (run_eql rfl rfl) rfl rfl (WL.val (run_pickF rfl) rfl rfl (WL.val run_assign rfl rfl ?_)))))))
    refine WL.nil (W.ret (bodyQ.r1 (v := .bool _) results30 rfl ?_))
    refine ⟨⟨_, rfl, ?_⟩, h⟩
    unfold allowP
    simp only [hal, false_or]
    first
    | (exfalso; omega)
    | (refine iff_of_true trivial ?_; omega)
    | (refine iff_of_false (by decide) ?_; omega)
    | (rw [decide_eq_true_iff]; omega)
   refine W.seq (W.seq (W.region (WL.val (run_eql rfl rfl) rfl rfl (WL.val run_assign rfl rfl (WL.nil ?_)))))
   refine W.condIf rfl (fun c17 => ?_) (fun c17 => ?_)
   ·
    refine W.skip ?_
    refine W.condIf rfl (fun c26 => ?_) (fun c26 => ?_)
    ·
     refine W.seq (W.region (WL.val run_assign rfl rfl (WL.nil (W.ret (bodyQ.r1 (v := .bool _) results30 rfl ?_)))))
     refine ⟨⟨_, rfl, ?_⟩, h⟩
     unfold allowP
     simp only [hal, false_or]
     first
     | (exfalso; omega)
     | (refine iff_of_true trivial ?_; omega)
     | (refine iff_of_false (by decide) ?_; omega)
     | (rw [decide_eq_true_iff]; omega)
    refine W.skip (W.seq (W.region (WL.val run_assign rfl rfl (WL.nil (W.ret (bodyQ.r1 (v := .bool _) results30 rfl ?_))))))
    refine ⟨⟨_, rfl, ?_⟩, h⟩
    unfold allowP
    simp only [hal, false_or]
    first
    | (exfalso; omega)
    | (refine iff_of_true trivial ?_; omega)
    | (refine iff_of_false (by decide) ?_; omega)
    | (rw [decide_eq_true_iff]; omega)
   refine W.seq (W.region (WL.val (run_eql rfl rfl) rfl rfl (WL.val run_assign rfl rfl (WL.nil ?_))))
   refine W.condIf rfl (fun c20 => ?_) (fun c20 => ?_)
   ·
    refine W.skip ?_
    refine W.condIf rfl (fun c26 => ?_) (fun c26 => ?_)
    ·
     refine W.seq (W.region (WL.val run_assign rfl rfl (WL.nil (W.ret (bodyQ.r1 (v := .bool _) results30 rfl ?_)))))
     refine ⟨⟨_, rfl, ?_⟩, h⟩
     unfold allowP
     simp only [hal, false_or]
     first
     | (exfalso; omega)
     | (refine iff_of_true trivial ?_; omega)
     | (refine iff_of_false (by decide) ?_; omega)
     | (rw [decide_eq_true_iff]; omega)
    refine W.skip (W.seq (W.region (WL.val run_assign rfl rfl (WL.nil (W.ret (bodyQ.r1 (v := .bool _) results30 rfl ?_))))))
    refine ⟨⟨_, rfl, ?_⟩, h⟩
    unfold allowP
    simp only [hal, false_or]
    first
    | (exfalso; omega)
    | (refine iff_of_true trivial ?_; omega)
    | (refine iff_of_false (by decide) ?_; omega)
    | (rw [decide_eq_true_iff]; omega)
   refine W.seq (W.region (WL.val (run_eql rfl rfl) rfl rfl (WL.val run_assign rfl rfl (WL.nil ?_))))
   refine W.condIf rfl (fun c23 => ?_) (fun c23 => ?_)
   ·
    refine W.skip ?_
    refine W.condIf rfl (fun c26 => ?_) (fun c26 => ?_)
    ·
     refine W.seq (W.region (WL.val run_assign rfl rfl (WL.nil (W.ret (bodyQ.r1 (v := .bool _) results30 rfl ?_)))))
     refine ⟨⟨_, rfl, ?_⟩, h⟩
     unfold allowP
     simp only [hal, false_or]
     first
     | (exfalso; omega)
     | (refine iff_of_true trivial ?_; omega)
     | (refine iff_of_false (by decide) ?_; omega)
     | (rw [decide_eq_true_iff]; omega)
    refine W.skip (W.seq (W.region (WL.val run_assign rfl rfl (WL.nil (W.ret (bodyQ.r1 (v := .bool _) results30 rfl ?_))))))
    refine ⟨⟨_, rfl, ?_⟩, h⟩
    unfold allowP
    simp only [hal, false_or]
    first
    | (exfalso; omega)
    | (refine iff_of_true trivial ?_; omega)
    | (refine iff_of_false (by decide) ?_; omega)
    | (rw [decide_eq_true_iff]; omega)
   refine W.region (WL.val (run_eql rfl rfl) rfl rfl (WL.val run_assign rfl rfl (WL.nil ?_)))
   refine W.condIf rfl (fun c26 => ?_) (fun c26 => ?_)
   ·
    refine W.seq (W.region (WL.val run_assign rfl rfl (WL.nil (W.ret (bodyQ.r1 (v := .bool _) results30 rfl ?_)))))
    refine ⟨⟨_, rfl, ?_⟩, h⟩
    unfold allowP
    simp only [hal, false_or]
    first
    | (exfalso; omega)
    | (refine iff_of_true trivial ?_; omega)
    | (refine iff_of_false (by decide) ?_; omega)
    | (rw [decide_eq_true_iff]; omega)
   refine W.skip (W.seq (W.region (WL.val run_assign rfl rfl (WL.nil (W.ret (bodyQ.r1 (v := .bool _) results30 rfl ?_))))))
   refine ⟨⟨_, rfl, ?_⟩, h⟩
   unfold allowP
   simp only [hal, false_or]
   first
   | (exfalso; omega)
   | (refine iff_of_true trivial ?_; omega)
   | (refine iff_of_false (by decide) ?_; omega)
   | (rw [decide_eq_true_iff]; omega)
  refine WL.val run_move rfl rfl (WL.skip rfl rfl (WL.skip rfl rfl (WL.val (run_pickF rfl) rfl rfl (WL.val run_move rfl rfl (WL.skip rfl rfl (WL.skip rfl rfl (WL.skip rfl rfl ?_)))))))
  refine WL.skip rfl rfl (WL.skip rfl rfl (WL.skip rfl rfl (WL.skip rfl rfl (WL.val (run_pickF rfl) rfl rfl (WL.val (run_pickF rfl) rfl rfl (WL.val run_assign rfl rfl (WL.nil ?_)))))))
  refine W.condF rfl (W.skip (W.seq (W.seq ?_)))
  have hal : ¬ alwP t hh := by
    rintro (h1 | h1 | ⟨h1, j, hj, h2, h3⟩)
    · exact c12 h1
    · exact c19 h1
    · rw [hrg] at h1; cases h1
  refine W.region (WL.val run_move rfl rfl (WL.nil (W.block (W.seq (W.seq (W.region (WL.val (run_eql rfl rfl) rfl rfl ?_)))))))
  refine WL.val run_assign rfl rfl (WL.nil ?_)
  refine W.condIf rfl (fun c10 => ?_) (fun c10 => ?_)
  ·
   refine W.skip ?_
   refine W.condIf rfl (fun c13 => ?_) (fun c13 => ?_)
   ·
    refine W.seq (W.region (WL.val run_move rfl rfl (WL.val (run_nilCheck rfl) rfl rfl (WL.val (run_fieldAddr 9 underlying113 rfl sizeOf3 rfl rfl) rfl rfl (WL.val (run_load1 isAgg3 rfl (h.cellB rfl)) rfl rfl ?_)))))
    refine WL.dec (run_eql rfl rfl) rfl rfl (fun c46 => ?_) (fun c46 => ?_)
    ·
     refine WL.val run_move rfl rfl (WL.skip rfl rfl (WL.skip rfl rfl (WL.skip rfl rfl (WL.skip rfl rfl (WL.skip rfl rfl (WL.val (run_pickT rfl) rfl rfl (WL.val run_assign rfl rfl ?_)))))))
     refine WL.nil (W.ret (bodyQ.r1 (v := .bool _) results30 rfl ?_))
     refine ⟨⟨_, rfl, ?_⟩, h⟩
     unfold allowP
     simp only [hal, false_or]
     first
     | (exfalso; omega)
     | (refine iff_of_true trivial ?_; omega)
     | (refine iff_of_false (by decide) ?_; omega)
     | (rw [decide_eq_true_iff]; omega)
    refine WL.val run_move rfl rfl (WL.val run_move rfl rfl (WL.val (run_nilCheck rfl) rfl rfl (WL.val (run_fieldAddr 9 underlying113 rfl sizeOf3 rfl rfl) rfl rfl (WL.val (run_load1 isAgg3 rfl (h.cellB rfl)) rfl rfl (WL.val (run_eql rfl rfl) rfl rfl (WL.val (run_pickF rfl) rfl rfl (WL.val run_assign rfl rfl ?_)))))))
    refine WL.nil (W.ret (bodyQ.r1 (v := .bool _) results30 rfl ?_))
    refine ⟨⟨_, rfl, ?_⟩, h⟩
    unfold allowP
    simp only [hal, false_or]
    first
    | (exfalso; omega)
    | (refine iff_of_true trivial ?_; omega)
    | (refine iff_of_false (by decide) ?_; omega)
    | (rw [decide_eq_true_iff]; omega)
   refine W.seq (W.seq (W.region (WL.val (run_eql rfl rfl) rfl rfl (WL.val run_assign rfl rfl (WL.nil ?_)))))
   refine W.condIf rfl (fun c17 => ?_) (fun c17 => ?_)
   ·
    refine W.skip ?_
    refine W.condIf rfl (fun c26 => ?_) (fun c26 => ?_)
    ·
     refine W.seq (W.region (WL.val run_assign rfl rfl (WL.nil (W.ret (bodyQ.r1 (v := .bool _) results30 rfl ?_)))))
     refine ⟨⟨_, rfl, ?_⟩, h⟩
     unfold allowP
     simp only [hal, false_or]
     first
     | (exfalso; omega)
     | (refine iff_of_true trivial ?_; omega)
     | (refine iff_of_false (by decide) ?_; omega)
     | (rw [decide_eq_true_iff]; omega)
    refine W.skip (W.seq (W.region (WL.val run_assign rfl rfl (WL.nil (W.ret (bodyQ.r1 (v := .bool _) results30 rfl ?_))))))
    refine ⟨⟨_, rfl, ?_⟩, h⟩
    unfold allowP
    simp only [hal, false_or]
    first
    | (exfalso; omega)
    | (refine iff_of_true trivial ?_; omega)
    | (refine iff_of_false (by decide) ?_; omega)
    | (rw [decide_eq_true_iff]; omega)
   refine W.seq (W.region (WL.val (run_eql rfl rfl) rfl rfl (WL.val run_assign rfl rfl (WL.nil ?_))))
   refine W.condIf rfl (fun c20 => ?_) (fun c20 => ?_)
   ·
    refine W.skip ?_
    refine W.condIf rfl (fun c26 => ?_) (fun c26 => ?_)
    ·
     refine W.seq (W.region (WL.val run_assign rfl rfl (WL.nil (W.ret (bodyQ.r1 (v := .bool _) results30 rfl ?_)))))
     refine ⟨⟨_, rfl, ?_⟩, h⟩
     unfold allowP
     simp only [hal, false_or]
     first
     | (exfalso; omega)
     | (refine iff_of_true trivial ?_; omega)
     | (refine iff_of_false (by decide) ?_; omega)
     | (rw [decide_eq_true_iff]; omega)
    refine W.skip (W.seq (W.region (WL.val run_assign rfl rfl (WL.nil (W.ret (bodyQ.r1 (v := .bool _) results30 rfl ?_))))))
    refine ⟨⟨_, rfl, ?_⟩, h⟩
    unfold allowP
    simp only [hal, false_or]
    first
    | (exfalso; omega)
    | (refine iff_of_true trivial ?_; omega)
    | (refine iff_of_false (by decide) ?_; omega)
    | (rw [decide_eq_true_iff]; omega)
   refine W.seq (W.region (WL.val (run_eql rfl rfl) rfl rfl (WL.val run_assign rfl rfl (WL.nil ?_))))
   refine W.condIf rfl (fun c23 => ?_) (fun c23 => ?_)
   ·
    refine W.skip ?_
    refine W.condIf rfl (fun c26 => ?_) (fun c26 => ?_)
    ·
     refine W.seq (W.region (WL.val run_assign rfl rfl (WL.nil (W.ret (bodyQ.r1 (v := .bool _) results30 rfl ?_)))))
     refine ⟨⟨_, rfl, ?_⟩, h⟩
     unfold allowP
     simp only [hal, false_or]
     first
     | (exfalso; omega)
     | (refine iff_of_true trivial ?_; omega)
     | (refine iff_of_false (by decide) ?_; omega)
     | (rw [decide_eq_true_iff]; omega)
    refine W.skip (W.seq (W.region (WL.val run_assign rfl rfl (WL.nil (W.ret (bodyQ.r1 (v := .bool _) results30 rfl ?_))))))
    refine ⟨⟨_, rfl, ?_⟩, h⟩
    unfold allowP
    simp only [hal, false_or]
    first
    | (exfalso; omega)
    | (refine iff_of_true trivial ?_; omega)
    | (refine iff_of_false (by decide) ?_; omega)
    | (rw [decide_eq_true_iff]; omega)
   refine W.region (WL.val (run_eql rfl rfl) rfl rfl (WL.val run_assign rfl rfl (WL.nil ?_)))
   refine W.condIf rfl (fun c26 => ?_) (fun c26 => ?_)
   ·
    refine W.seq (W.region (WL.val run_assign rfl rfl (WL.nil (W.ret (bodyQ.r1 (v := .bool _) results30 rfl ?_)))))
    refine ⟨⟨_, rfl, ?_⟩, h⟩
    unfold allowP
    simp only [hal, false_or]
    first
    | (exfalso; omega)
    | (refine iff_of_true trivial ?_; omega)
    | (refine iff_of_false (by decide) ?_; omega)
    | (rw [decide_eq_true_iff]; omega)
   refine W.skip (W.seq (W.region (WL.val run_assign rfl rfl (WL.nil (W.ret (bodyQ.r1 (v := .bool _) results30 rfl ?_))))))
   refine ⟨⟨_, rfl, ?_⟩, h⟩
   unfold allowP
   simp only [hal, false_or]
   first
   | (exfalso; omega)
   | (refine iff_of_true trivial ?_; omega)
   | (refine iff_of_false (by decide) ?_; omega)
   | (rw [decide_eq_true_iff]; omega)
  refine W.region (WL.val (run_eql rfl rfl) rfl rfl (WL.val run_assign rfl rfl (WL.nil ?_)))
  refine W.condIf rfl (fun c13 => ?_) (fun c13 => ?_)
  ·
   refine W.seq (W.region (WL.val run_move rfl rfl (WL.val (run_nilCheck rfl) rfl rfl (WL.val (run_fieldAddr 9 underlying113 rfl sizeOf3 rfl rfl) rfl rfl (WL.val (run_load1 isAgg3 rfl (h.cellB rfl)) rfl rfl ?_)))))
   refine WL.dec (run_eql rfl rfl) rfl rfl (fun c46 => ?_) (fun c46 => ?_)
   ·
    refine WL.val run_move rfl rfl (WL.skip rfl rfl (WL.skip rfl rfl (WL.skip rfl rfl (WL.skip rfl rfl (WL.skip rfl rfl (WL.val (run_pickT rfl) rfl rfl (WL.val run_assign rfl rfl ?_)))))))
    refine WL.nil (W.ret (bodyQ.r1 (v := .bool _) results30 rfl ?_))
    refine ⟨⟨_, rfl, ?_⟩, h⟩
    unfold allowP
    simp only [hal, false_or]
    first
    | (exfalso; omega)
    | (refine iff_of_true trivial ?_; omega)
    | (refine iff_of_false (by decide) ?_; omega)
    | (rw [decide_eq_true_iff]; omega)
   refine WL.val run_move rfl rfl (WL.val run_move rfl rfl (WL.val (run_nilCheck rfl) rfl rfl (WL.val (run_fieldAddr 9 underlying113 rfl sizeOf3 rfl rfl) rfl rfl (WL.val (run_load1 isAgg3 rfl (h.cellB rfl)) rfl rfl (WL.val (run_eql rfl rfl) rfl rfl (WL.val (run_pickF rfl) rfl rfl (WL.val run_assign rfl rfl ?_)))))))
   refine WL.nil (W.ret (bodyQ.r1 (v := .bool _) results30 rfl ?_))
   refine ⟨⟨_, rfl, ?_⟩, h⟩
   unfold allowP
   simp only [hal, false_or]
   first
   | (exfalso; omega)
   | (refine iff_of_true trivial ?_; omega)
   | (refine iff_of_false (by decide) ?_; omega)
   | (rw [decide_eq_true_iff]; omega)
  refine W.seq (W.seq (W.region (WL.val (run_eql rfl rfl) rfl rfl (WL.val run_assign rfl rfl (WL.nil ?_)))))
  refine W.condIf rfl (fun c17 => ?_) (fun c17 => ?_)
  ·
   refine W.skip ?_
   refine W.condIf rfl (fun c26 => ?_) (fun c26 => ?_)
   ·
    refine W.seq (W.region (WL.val run_assign rfl rfl (WL.nil (W.ret (bodyQ.r1 (v := .bool _) results30 rfl ?_)))))
    refine ⟨⟨_, rfl, ?_⟩, h⟩
    unfold allowP
    simp only [hal, false_or]
    first
    | (exfalso; omega)
    | (refine iff_of_true trivial ?_; omega)
    | (refine iff_of_false (by decide) ?_; omega)
    | (rw [decide_eq_true_iff]; omega)
   refine W.skip (W.seq (W.region (WL.val run_assign rfl rfl (WL.nil (W.ret (bodyQ.r1 (v := .bool _) results30 rfl ?_))))))
   refine ⟨⟨_, rfl, ?_⟩, h⟩
   unfold allowP
   simp only [hal, false_or]
   first
   | (exfalso; omega)
   | (refine iff_of_true trivial ?_; omega)
   | (refine iff_of_false (by decide) ?_; omega)
   | (rw [decide_eq_true_iff]; omega)
  refine W.seq (W.region (WL.val (run_eql rfl rfl) rfl rfl (WL.val run_assign rfl rfl (WL.nil ?_))))
  refine W.condIf rfl (fun c20 => ?_) (fun c20 => ?_)
  ·
   refine W.skip ?_
   refine W.condIf rfl (fun c26 => ?_) (fun c26 => ?_)
   ·
    refine W.seq (W.region (WL.val run_assign rfl rfl (WL.nil (W.ret (bodyQ.r1 (v := .bool _) results30 rfl ?_)))))
    refine ⟨⟨_, rfl, ?_⟩, h⟩
    unfold allowP
    simp only [hal, false_or]
    first
    | (exfalso; omega)
    | (refine iff_of_true trivial ?_; omega)
    | (refine iff_of_false (by decide) ?_; omega)
    | (rw [decide_eq_true_iff]; omega)
   refine W.skip (W.seq (W.region (WL.val run_assign rfl rfl (WL.nil (W.ret (bodyQ.r1 (v := .bool _) results30 rfl ?_))))))
   refine ⟨⟨_, rfl, ?_⟩, h⟩
   unfold allowP
   simp only [hal, false_or]
   first
   | (exfalso; omega)
   | (refine iff_of_true trivial ?_; omega)
   | (refine iff_of_false (by decide) ?_; omega)
   | (rw [decide_eq_true_iff]; omega)
  refine W.seq (W.region (WL.val (run_eql rfl rfl) rfl rfl (WL.val run_assign rfl rfl (WL.nil ?_))))
  refine W.condIf rfl (fun c23 => ?_) (fun c23 => ?_)
  ·
   refine W.skip ?_
   refine W.condIf rfl (fun c26 => ?_) (fun c26 => ?_)
   ·
    refine W.seq (W.region (WL.val run_assign rfl rfl (WL.nil (W.ret (bodyQ.r1 (v := .bool _) results30 rfl ?_)))))
    refine ⟨⟨_, rfl, ?_⟩, h⟩
    unfold allowP
    simp only [hal, false_or]
    first
    | (exfalso; omega)
    | (refine iff_of_true trivial ?_; omega)
    | (refine iff_of_false (by decide) ?_; omega)
    | (rw [decide_eq_true_iff]; omega)
   refine W.skip (W.seq (W.region (WL.val run_assign rfl rfl (WL.nil (W.ret (bodyQ.r1 (v := .bool _) results30 rfl ?_))))))
   refine ⟨⟨_, rfl, ?_⟩, h⟩
   unfold allowP
   simp only [hal, false_or]
   first
   | (exfalso; omega)
   | (refine iff_of_true trivial ?_; omega)
   | (refine iff_of_false (by decide) ?_; omega)
   | (rw [decide_eq_true_iff]; omega)
  refine W.region (WL.val (run_eql rfl rfl) rfl rfl (WL.val run_assign rfl rfl (WL.nil ?_)))
  refine W.condIf rfl (fun c26 => ?_) (fun c26 => ?_)
  ·
   refine W.seq (W.region (WL.val run_assign rfl rfl (WL.nil (W.ret (bodyQ.r1 (v := .bool _) results30 rfl ?_)))))
   refine ⟨⟨_, rfl, ?_⟩, h⟩
   unfold allowP
   simp only [hal, false_or]
   first
   | (exfalso; omega)
   | (refine iff_of_true trivial ?_; omega)
   | (refine iff_of_false (by decide) ?_; omega)
   | (rw [decide_eq_true_iff]; omega)
  refine W.skip (W.seq (W.region (WL.val run_assign rfl rfl (WL.nil (W.ret (bodyQ.r1 (v := .bool _) results30 rfl ?_))))))
  refine ⟨⟨_, rfl, ?_⟩, h⟩
  unfold allowP
  simp only [hal, false_or]
  first
  | (exfalso; omega)
  | (refine iff_of_true trivial ?_; omega)
  | (refine iff_of_false (by decide) ?_; omega)
  | (rw [decide_eq_true_iff]; omega)
end Go.Proofs.YtjbgiingimhnnaaGreat
/-
  The contracts of reservations. Lines of walks printed by a program of the prover's.
-/
namespace Go.Proofs.YtjbgiingimhnnaaGreat
open Go.Proofs.Tryz
open Go Go.Sl Go.Sl.RsM
set_option linter.unusedVariables false
set_option linter.unusedSimpArgs false
set_option maxHeartbeats 1000000
set_option maxRecDepth 8000
variable {W0 w : World} {L F : List HProp}
theorem preempt1_ok {b8 : Nat} {k other : Int} {cs : List Value} {e : Nat} {fr : Nat × Nat} (h : On W0 L w) [HasBlk L b8 (.int .u64 other :: cs) e fr] : Calls Tryz.prog 119 #[.int .u64 k, .pointer (some ⟨b8, 0, none⟩)] w (Ret fun v w' => v = .bool (decide (k = other)) ∧ On W0 L w') := by
  refine enter func119 rfl ntmps119 rfl (W.seq (W.region (WL.val run_assign rfl rfl (WL.nil (W.seq (W.region (WL.val run_move rfl rfl ?_)))))))
  refine WL.val (run_load1 isAgg23 rfl (h.cellB rfl)) rfl rfl (WL.val (run_eql rfl rfl) rfl rfl (WL.val run_assign rfl rfl (WL.nil (W.ret (bodyQ.r1 (v := .bool _) results119 rfl ?_)))))
  exact ⟨rfl, h⟩
end Go.Proofs.YtjbgiingimhnnaaGreat
/-
  Numbers by their bytes; sums of bytes. Plain, and the steps of numbers that these need. No program is named here.
-/
namespace Go.Sl
open Go
set_option linter.unusedVariables false
section
variable {P : Program} {w : World} {ρ : Operand → Value} {d : Option Nat} {ty : TypeId} {pos : String} {af : Array Edge} {g : Option (Nat × Bool)}
end
end Go.Sl
namespace Go.Sl.ByM
open Go Go.Sl
set_option linter.unusedVariables false
/-! ### Numbers -/
def putK (v n k : Nat) : List UInt8 := (List.range k).map fun (q : Nat) => UInt8.ofNat (v / 2 ^ (8 * (n - 1 - q)))
theorem putK_length (v n k : Nat) : (putK v n k).length = k := by simp [putK]
theorem putK_succ (v n k : Nat) : putK v n (k + 1) = putK v n k ++ [UInt8.ofNat (v / 2 ^ (8 * (n - 1 - k)))] := by simp [putK, List.range_succ]
abbrev be (v n : Nat) : List UInt8 := putK v n n
theorem be_length (v n : Nat) : (be v n).length = n := putK_length v n n
def beV (bs : List UInt8) : Nat := bs.foldl (fun v c => v * 256 + c.toNat) 0
theorem beV_snoc (bs : List UInt8) (c : UInt8) : beV (bs ++ [c]) = beV bs * 256 + c.toNat := by simp [beV]
theorem beV_lt (bs : List UInt8) : beV bs < 256 ^ bs.length := by
  rw [← List.reverse_reverse bs]
  generalize bs.reverse = l
  induction l with
  | nil => decide
  | cons c l ih =>
    rw [List.reverse_cons, beV_snoc, List.length_append, List.length_singleton, Nat.pow_succ]
    have := c.toNat_lt
    omega
theorem or_byte (v : Nat) (c : UInt8) : v * 256 ||| c.toNat = v * 256 + c.toNat := by
  have h : c.toNat < 2 ^ 8 := by have := c.toNat_lt; omega
  have := Nat.two_pow_add_eq_or_of_lt (i := 8) h v
  rw [Nat.mul_comm v 256]
  exact this.symm
/-! ### Sums -/
def poly : Nat := 2197175160
def sN (v : Nat) : Nat := (v >>> 1) ^^^ (if v.testBit 0 then poly else 0)
def s4 (v : Nat) : Nat := sN (sN (sN (sN v)))
end Go.Sl.ByM
namespace Go.Sl.ByM
open Go Go.Sl
/-- A part of a row of bytes. -/
theorem cut_bytes {L : List HProp} {a : Option Addr} {c l h : Nat} {bs : List UInt8} (g : Gives L (Bytes (.slice a bs.length c) bs)) (hc : bs.length ≤ c) (h1 : l ≤ h) (h2 : h ≤ bs.length) :
    ∃ a' c', sliced a l h c 1 = .slice a' ((bs.drop l).take (h - l)).length c' ∧ Gives L (Bytes (.slice a' ((bs.drop l).take (h - l)).length c') ((bs.drop l).take (h - l))) := by
  have hlen : ((bs.drop l).take (h - l)).length = h - l := by rw [List.length_take, List.length_drop]; omega
  refine ⟨(if c = l then a else a.map (·.add (l * 1))), c - l, by rw [hlen]; rfl, fun hh H => ?_⟩
  have c1 := (g hh H).cut (l := l) (h := h) (m := c) h1 h2 (by omega) (Nat.le_refl _)
  have e : ((bytesV bs).drop (l * 1)).take ((h - l) * 1) = bytesV ((bs.drop l).take (h - l)) := by
    unfold bytesV
    rw [List.map_take, List.map_drop, Nat.mul_one, Nat.mul_one]
  rw [e] at c1
  unfold Bytes
  rw [hlen]
  exact c1
/-- A front of it. -/
theorem front_bytes {L : List HProp} {a : Option Addr} {c h : Nat} {bs : List UInt8} (g : Gives L (Bytes (.slice a bs.length c) bs)) (h2 : h ≤ bs.length) :
    Gives L (Bytes (.slice a (bs.take h).length c) (bs.take h)) := fun hh H => by
  have hlen : (bs.take h).length = h := by rw [List.length_take]; omega
  have c1 := (g hh H).front (k := h) h2
  have e : (bytesV bs).take (h * 1) = bytesV (bs.take h) := by unfold bytesV; rw [List.map_take, Nat.mul_one]
  rw [e] at c1
  unfold Bytes
  rw [hlen]
  exact c1
end Go.Sl.ByM
namespace Go.Sl
open Go
section
variable {P : Program} {w : World} {ρ : Operand → Value} {d : Option Nat} {ty : TypeId} {pos : String} {af : Array Edge} {g : Option (Nat × Bool)}
theorem run_subNV {t yt : TypeId} {x y : Operand} {m n r : Nat} (hx : ρ x = .int .i64 (m : Int)) (hy : ρ y = .int .i64 (n : Int)) (h : n ≤ m) (h' : m ≤ 9223372036854775807) (hr : m - n = r) : (execOp ρ ⟨d, .binOp .sub t x y yt, ty, pos, af, g⟩).run P w = .ok (.value (.int .i64 (r : Int))) w := by
  rw [← hr]; exact run_subN hx hy h h'
end
end Go.Sl
namespace Go.Sl
open Go
section
variable {P : Program} {w : World} {ρ : Operand → Value} {d : Option Nat} {ty : TypeId} {pos : String} {af : Array Edge} {g : Option (Nat × Bool)}
end
end Go.Sl
namespace Go.Sl
open Go
section
variable {P : Program} {w : World} {ρ : Operand → Value} {d : Option Nat} {ty : TypeId} {pos : String} {af : Array Edge} {g : Option (Nat × Bool)}
theorem run_cutHV {t e size n c h r : Nat} {kh : IntKind} {x y : Operand} {a : Option Addr} (hU : P.underlying t = some (.slice e)) (hS : ∀ w, (sizeOf e).run P w = .ok size w) (hx : ρ x = .slice a n c) (hy : ρ y = .int kh h) (h1 : h ≤ c) (hr : h = r) :
    (execOp ρ ⟨d, .slice t x none (some y) none, ty, pos, af, g⟩).run P w = .ok (.value (.slice a r c)) w := by rw [← hr]; exact run_cutH hU hS hx hy h1
end
end Go.Sl
/-
  A unit as plain data, and as it lies: blocks, reservations, what is kept of the hosts. No program is named here.
-/
namespace Go.Sl.UnM
open Go Go.Sl Go.Sl.BitM Go.Sl.SpM Go.Sl.RsM Go.Sl.ByM
set_option linter.unusedVariables false
set_option linter.unusedSimpArgs false
/-- What a command is told. -/
structure Rp where
  st : Int
  key : Int
  code : Int
  data : List UInt8
  info : Int
deriving DecidableEq
def Rp.val (r : Rp) (dv : Value) : Value := .agg #[.int .i64 r.st, .int .i64 r.key, .int .i64 r.code, dv, .int .i64 r.info]
def Rp.cells (r : Rp) (dv : Value) : List Value := [.int .i64 r.st, .int .i64 r.key, .int .i64 r.code, dv, .int .i64 r.info]
def plain (s k c : Int) : Rp := ⟨s, k, c, [], 0⟩
def gave (bs : List UInt8) : Rp := ⟨0, 0, 0, bs, 0⟩
/-- A command. -/
structure Cm where
  kind : Int
  at_ : Int
  n : Int
  data : List UInt8
  key : Int
  new : Int
  typ : Int
  force : Bool
def Cm.cells (c : Cm) (dv : Value) : List Value := [.int .i64 c.kind, .int .i64 c.at_, .int .i64 c.n, dv, .int .u64 c.key, .int .u64 c.new, .int .i64 c.typ, .bool c.force]
def Cm.val (c : Cm) (dv : Value) : Value := .agg #[.int .i64 c.kind, .int .i64 c.at_, .int .i64 c.n, dv, .int .u64 c.key, .int .u64 c.new, .int .i64 c.typ, .bool c.force]
/-- What is kept of a host. -/
structure Gs where
  codes : List Int
  floor : Int
  done : List (Int × Rp)
structure Un where
  s : Sp
  t : Tb
  g : List Gs
def newU (n : Nat) : Un := ⟨newS n, newT, List.replicate 8 ⟨[], 0, []⟩⟩
/-! ### What it computes -/
def diffAt : List UInt8 → List UInt8 → Nat
  | x :: xs, y :: ys => if x = y then diffAt xs ys + 1 else 0
  | _, _ => 0
theorem diffAt_eq : ∀ (xs ys : List UInt8) (i : Nat), xs[i]? ≠ ys[i]? → i < xs.length → i < ys.length → (∀ j, j < i → xs[j]? = ys[j]?) → diffAt xs ys = i
  | [], _, i, _, h, _, _ => by cases h
  | x :: xs, [], i, _, _, h, _ => by cases h
  | x :: xs, y :: ys, 0, h, _, _, _ => by
    have : x ≠ y := fun e => h (by simp [e])
    simp [diffAt, this]
  | x :: xs, y :: ys, i + 1, h, h1, h2, hj => by
    have h0 := hj 0 (by omega)
    simp at h0
    have := diffAt_eq xs ys i (by simpa using h) (by simpa using h1) (by simpa using h2) (fun j hji => by have := hj (j + 1) (by omega); simpa using this)
    simp [diffAt, h0, this]
def cmpM (s : Sp) (p q : Nat) (bs : List UInt8) : Sp × Rp :=
  if partS s p q = bs.take (8 * q) then (writeS s p (bs.drop (8 * q)), plain 0 0 0) else (s, ⟨2, 14, 7424, [], (diffAt (partS s p q) bs : Nat)⟩)
def runM (s : Sp) (c : Cm) : Sp × Rp :=
  if inS s c.at_ c.n then
    if c.kind = 2 then (s, gave (partS s c.at_.toNat c.n.toNat))
    else if c.kind = 3 then if (c.data.length : Int) = c.n * 8 then (writeS s c.at_.toNat c.data, plain 0 0 0) else (s, plain 2 5 9216)
    else if c.kind = 5 then (unmapS s c.at_.toNat c.n.toNat, plain 0 0 0)
    else if c.kind = 6 then if (c.data.length : Int) = 2 * (c.n * 8) then cmpM s c.at_.toNat c.n.toNat c.data else (s, plain 2 5 9216)
    else (s, plain 0 0 0)
  else (s, plain 2 5 8448)
def senseB (k c : Nat) : List UInt8 := [112, 0, UInt8.ofNat k, 0, 0, 0, 0, 10, 0, 0, 0, 0] ++ be c 2 ++ [0, 0, 0, 0]
theorem senseB_len (k c : Nat) : (senseB k c).length = 18 := by simp only [senseB, List.length_append, be_length, List.length_cons, List.length_nil]
def inqB : List UInt8 := [0, 0, 5, 2, 31, 0, 0, 0, 71, 69, 77, 69, 76, 32, 32, 32, 84, 87, 73, 78, 32, 68, 73, 83, 75, 32, 32, 32, 32, 32, 32, 32, 48, 48, 48, 49]
def capB (n : Nat) : List UInt8 := be (n - 1) 4 ++ be 8 4
def tellM (l : List Int) (c : Int) : List Int := if c ∈ l then l else l ++ [c]
def Gs.tell (g : Gs) (c : Int) : Gs := { g with codes := tellM g.codes c }
def Gs.pop (g : Gs) : Gs := { g with codes := g.codes.drop 1 }
def Un.guest (u : Un) (i : Nat) : Gs := u.g.getD i ⟨[], 0, []⟩
def Un.putG (u : Un) (i : Nat) (g : Gs) : Un := { u with g := u.g.set i g }
def Un.tell (u : Un) (i : Nat) (c : Int) : Un := u.putG i ((u.guest i).tell c)
def small (k : Nat) (u : Un) : Prop := ∀ i, i < 8 → (u.guest i).codes.length ≤ k
def okC (u : Un) : Prop := ∀ i, i < 8 → ∀ c ∈ (u.guest i).codes, 0 ≤ c ∧ c < 65536
def Un.setS (u : Un) (s : Sp) : Un := { u with s := s }
def resetN (u : Un) : Nat → Un
  | 0 => u
  | n + 1 => (resetN u n).tell n 10499
/-! Reservations, as they are told. -/
def okKB (t : Tb) (i : Nat) (key : Int) : Bool := !decide (t.K i = 0) && decide (t.K i = key)
def Un.setT (u : Un) (t : Tb) : Un := { u with t := t }
def notM (u : Un) (code : Int) (l : List Nat) : Un := l.foldl (fun u n => u.tell n code) u
/-- What becomes of the table, what is told, of whom and of what. -/
structure Rv where
  t : Tb
  r : Rp
  l : List Nat
  code : Int
def regF (t : Tb) (i : Nat) (key fresh : Int) (ign : Bool) : Rv := if ign = true ∨ key = t.K i then ⟨(regO t i fresh).2, plain 0 0 0, (regO t i fresh).1, 10756⟩ else ⟨t, plain 24 0 0, [], 0⟩
def rsvF (t : Tb) (i : Nat) (key typ : Int) : Rv :=
  if okKB t i key = false then ⟨t, plain 24 0 0, [], 0⟩
  else if typedB typ = false then ⟨t, plain 2 5 9216, [], 0⟩
  else if t.hold = -1 then ⟨t.take i typ, plain 0 0 0, [], 0⟩
  else if t.hold = i ∧ t.typ = typ then ⟨t, plain 0 0 0, [], 0⟩
  else ⟨t, plain 24 0 0, [], 0⟩
def relF (t : Tb) (i : Nat) (key typ : Int) : Rv :=
  if okKB t i key = false then ⟨t, plain 24 0 0, [], 0⟩
  else if typedB typ = false then ⟨t, plain 2 5 9216, [], 0⟩
  else if t.hold ≠ i then ⟨t, plain 0 0 0, [], 0⟩
  else if t.typ ≠ typ then ⟨t, plain 2 5 9732, [], 0⟩
  else ⟨t.freed, plain 0 0 0, t.told i, 10756⟩
def clrF (t : Tb) (i : Nat) (key : Int) : Rv :=
  if okKB t i key = false then ⟨t, plain 24 0 0, [], 0⟩
  else ⟨t.cleared, plain 0 0 0, hostsN t.K i (fun _ => true) 8, 10755⟩
def preF (t : Tb) (i : Nat) (key other typ : Int) : Rv :=
  if okKB t i key = false then ⟨t, plain 24 0 0, [], 0⟩
  else if other = 0 then ⟨t, plain 2 5 9728, [], 0⟩
  else if preL t i other = [] then ⟨t, plain 24 0 0, [], 0⟩
  else if takesP t i other ∧ typedB typ = false then ⟨t, plain 2 5 9216, [], 0⟩
  else ⟨preT t i other typ, plain 0 0 0, preL t i other, 10757⟩
def rvM (t : Tb) (i : Nat) (c : Cm) : Rv :=
  if c.kind = 10 then regF t i c.key c.new false
  else if c.kind = 11 then regF t i c.key c.new true
  else if c.kind = 12 then rsvF t i c.key c.typ
  else if c.kind = 13 then relF t i c.key c.typ
  else if c.kind = 14 then clrF t i c.key
  else preF t i c.key c.new c.typ
def keysN (K : Nat → Int) : Nat → List Int
  | 0 => []
  | n + 1 => keysN K n ++ if K n = 0 then [] else [K n]
def keysB (t : Tb) : List UInt8 := be t.gen.toNat 4 ++ be (8 * (keysN t.K 8).length) 4 ++ (keysN t.K 8).flatMap fun k => be k.toNat 8
def holdK (t : Tb) : Int := if hostB t.hold = true then t.K t.hold.toNat else 0
def holdB (t : Tb) : List UInt8 := if t.typ = 0 then be t.gen.toNat 4 ++ be 0 4 else be t.gen.toNat 4 ++ be 16 4 ++ be (holdK t).toNat 8 ++ be 0 4 ++ be t.typ.toNat 2 ++ be 0 2
def resM (u : Un) (i : Nat) (c : Cm) : Un × Rp :=
  if c.kind = 16 then (u, gave (keysB u.t))
  else if c.kind = 17 then (u, gave (holdB u.t))
  else (notM (u.setT (rvM u.t i c).t) (rvM u.t i c).code (rvM u.t i c).l, (rvM u.t i c).r)
def actM (u : Un) (i : Nat) (c : Cm) : Un × Rp :=
  if c.kind = 1 then (u, plain 0 0 0)
  else if c.kind = 8 then (u, gave inqB)
  else if c.kind = 7 then (u, gave (capB u.s.N))
  else if c.kind ≤ 6 then (u.setS (runM u.s c).1, (runM u.s c).2)
  else if c.kind = 18 then (resetN u 8, plain 0 0 0)
  else resM u i c
def allowB (t : Tb) (h kind : Int) : Bool := decide (t.hold = -1) || decide (t.hold = h) || (t.regsB && hostB h && !decide (t.K h.toNat = 0)) || ((decide (kind = 1) || decide (kind = 2)) && (decide (t.typ = 1) || decide (t.typ = 5))) || !(decide (1 ≤ kind) && decide (kind ≤ 6))
theorem allowB_iff {t : Tb} {h kind : Int} : allowB t h kind = true ↔ allowP t h kind := by
  unfold allowB allowP alwP
  simp only [Bool.or_eq_true, Bool.and_eq_true, decide_eq_true_eq, Bool.not_eq_true', decide_eq_false_iff_not, hostB_iff, Bool.and_eq_false_iff]
  constructor
  · rintro ((((h1 | h1) | h1) | h1) | h1)
    · exact .inl (.inl h1)
    · exact .inl (.inr (.inl h1))
    · obtain ⟨⟨h1, h2, h3⟩, h4⟩ := h1
      exact .inl (.inr (.inr ⟨h1, h.toNat, by omega, by omega, h4⟩))
    · exact .inr (.inl h1)
    · exact .inr (.inr (by omega))
  · rintro ((h1 | h1 | ⟨h1, i, rfl, hi, hk⟩) | h1 | h1)
    · exact .inl (.inl (.inl (.inl h1)))
    · exact .inl (.inl (.inl (.inr h1)))
    · exact .inl (.inl (.inr ⟨⟨h1, by omega, by omega⟩, by simpa using hk⟩))
    · exact .inl (.inr h1)
    · exact .inr (by omega)
/-! ### As it lies -/
abbrev PoolL := List (Value × List UInt8)
def cV (l : List Int) : List Value := l.map (Value.int .i64)
structure GX where
  s : Gs
  a : Option Addr
  c : Nat
  mb : Nat
  ck : Nat
  kvs : List KV
def GX.row (g : GX) : List Value := [.slice g.a g.s.codes.length g.c, .int .u64 g.s.floor, .map (some g.mb)]
def okD (pool : PoolL) (D : List (Int × Rp)) (kvs : List KV) : Prop := (kvs.map (·.1)).Perm (D.map (·.1)) ∧ (D.map (·.1)).Nodup ∧ ∀ x ∈ kvs, ∃ r dv, (x.1, r) ∈ D ∧ x.2.1 = r.val dv ∧ (dv, r.data) ∈ pool
abbrev CodesO (g : GX) : HProp := Own 1 (.slice g.a g.s.codes.length g.c) g.s.codes.length (cV g.s.codes)
def GOwn (pool : PoolL) (g : GX) : HProp := Pack (okD pool g.s.done g.kvs) [CodesO g, MapC g.mb .u64 g.kvs g.ck]
abbrev ucells (bs bt : Nat) (gs : List GX) : List Value := .pointer (some ⟨bs, 0, none⟩) :: .pointer (some ⟨bt, 0, none⟩) :: gs.flatMap GX.row
/-- ms: where the maps of what was done lie. -/
def UnP (TU TS TT bu : Nat) (pool : PoolL) (ms : List Nat) (u : Un) : HProp := Ex fun (x : Nat × Nat × List GX) => Pack ((x.2.2.map (·.s) = u.g ∧ x.2.2.map (·.mb) = ms) ∧ u.g.length = 8)
  [blk bu (ucells x.1 x.2.1 x.2.2) TU, SpP TS x.1 u.s, blk x.2.1 u.t.cells TT, Big (GOwn pool) x.2.2]
section
variable {W0 w : World} {L : List HProp} {TU TS TT bu bs bt : Nat} {pool : PoolL} {ms : List Nat} {u : Un} {gs : List GX} {g g' : GX} {i : Nat}
theorem openU (H : On W0 (UnP TU TS TT bu pool ms u :: L) w) : ∃ bs bt gs, (gs.map (·.s) = u.g ∧ gs.map (·.mb) = ms) ∧ u.g.length = 8 ∧ On W0 (blk bu (ucells bs bt gs) TU :: SpP TS bs u.s :: blk bt u.t.cells TT :: Big (GOwn pool) gs :: L) w := by
  obtain ⟨⟨b1, b2, gs⟩, H⟩ := H.ex
  obtain ⟨⟨h1, h2⟩, H⟩ := H.unpack
  exact ⟨b1, b2, gs, h1, h2, H⟩
theorem closeU (h1 : gs.map (·.s) = u.g ∧ gs.map (·.mb) = ms) (h2 : u.g.length = 8) (H : On W0 (blk bu (ucells bs bt gs) TU :: SpP TS bs u.s :: blk bt u.t.cells TT :: Big (GOwn pool) gs :: L) w) : On W0 (UnP TU TS TT bu pool ms u :: L) w :=
  On.exI (bs, bt, gs) (On.pack ⟨h1, h2⟩ H)
theorem openG (H : On W0 (GOwn pool g :: L) w) : okD pool g.s.done g.kvs ∧ On W0 (CodesO g :: MapC g.mb .u64 g.kvs g.ck :: L) w := H.unpack
theorem closeG (h1 : okD pool g.s.done g.kvs) (H : On W0 (CodesO g :: MapC g.mb .u64 g.kvs g.ck :: L) w) : On W0 (GOwn pool g :: L) w := On.pack h1 H
theorem row_of (h1' : gs.map (·.s) = u.g ∧ gs.map (·.mb) = ms) (h2 : u.g.length = 8) (hi : i < 8) : ∃ g, gs[i]? = some g ∧ g.s = u.guest i := by
  have h1 := h1'.1
  have hl : gs.length = 8 := by rw [← h2, ← h1, List.length_map]
  refine ⟨gs[i]'(by omega), by simp, ?_⟩
  unfold Un.guest
  rw [← h1, List.getD_eq_getElem?_getD, List.getElem?_map, List.getElem?_eq_getElem (by omega)]
  rfl
theorem put_map (h1 : gs.map (·.s) = u.g ∧ gs.map (·.mb) = ms) (hg : gs[i]? = some g) (e : g'.mb = g.mb) : (gs.set i g').map (·.s) = (u.putG i g'.s).g ∧ (gs.set i g').map (·.mb) = ms := by
  refine ⟨by rw [List.map_set, h1.1]; rfl, ?_⟩
  rw [List.map_set, h1.2, e]
  apply List.ext_getElem?
  intro j
  rw [List.getElem?_set]
  split
  · rename_i ej; subst ej
    have hlt := (List.getElem?_eq_some_iff.1 hg).1
    rw [if_pos (by rw [← h1.2, List.length_map]; exact hlt), ← h1.2, List.getElem?_map, hg]; rfl
  · rfl
theorem put_map2 (h1 : gs.map (·.s) = u.g ∧ gs.map (·.mb) = ms) : (gs.set i g').map (·.s) = (u.putG i g'.s).g ∧ (gs.set i g').map (·.mb) = ms.set i g'.mb :=
  ⟨by rw [List.map_set, h1.1]; rfl, by rw [List.map_set, h1.2]⟩
theorem put_len (h2 : u.g.length = 8) {x : Gs} : (u.putG i x).g.length = 8 := by show (u.g.set i x).length = 8; rw [List.length_set, h2]
theorem rows_get : ∀ {gs : List GX} {i k : Nat}, gs[i]? = some g → k < 3 → (gs.flatMap GX.row)[i * 3 + k]? = g.row[k]?
  | [], i, k, h, _ => by simp at h
  | x :: gs, 0, k, h, hk => by
    simp at h
    subst h
    rw [List.flatMap_cons, List.getElem?_append_left (by show _ < 3; omega), Nat.zero_mul, Nat.zero_add]
  | x :: gs, i + 1, k, h, hk => by
    rw [List.flatMap_cons, List.getElem?_append_right (by show 3 ≤ _; omega), show (i + 1) * 3 + k - x.row.length = i * 3 + k by show _ - 3 = _; omega]
    exact rows_get (by simpa using h) hk
theorem rows_set {v : Value} : ∀ {gs : List GX} {i k : Nat}, gs[i]? = some g → k < 3 → g'.row = g.row.set k v → (gs.flatMap GX.row).set (i * 3 + k) v = (gs.set i g').flatMap GX.row
  | [], i, k, h, _, _ => by simp at h
  | x :: gs, 0, k, h, hk, e => by
    simp at h
    subst h
    rw [List.flatMap_cons, List.set_append_left _ _ (by show _ < 3; omega), Nat.zero_mul, Nat.zero_add, ← e, List.set_cons_zero, List.flatMap_cons]
  | x :: gs, i + 1, k, h, hk, e => by
    rw [List.flatMap_cons, List.set_append_right _ _ (by show 3 ≤ _; omega), show (i + 1) * 3 + k - x.row.length = i * 3 + k by show _ - 3 = _; omega, rows_set (by simpa using h) hk e, List.set_cons_succ, List.flatMap_cons]
theorem ucell {k : Nat} {x : Value} (h : gs[i]? = some g) (hk : k < 3) (hx : g.row[k]? = some x) : (ucells bs bt gs)[0 + 2 + ((i : Nat) : Int).toNat * 3 + k]? = some x := by
  rw [show 0 + 2 + ((i : Nat) : Int).toNat * 3 + k = i * 3 + k + 1 + 1 by simp; omega]
  show (gs.flatMap GX.row)[i * 3 + k]? = _
  rw [rows_get h hk, hx]
theorem uset {k : Nat} {v : Value} (h : gs[i]? = some g) (hk : k < 3) (e : g'.row = g.row.set k v) : (ucells bs bt gs).set (0 + 2 + ((i : Nat) : Int).toNat * 3 + k) v = ucells bs bt (gs.set i g') := by
  rw [show 0 + 2 + ((i : Nat) : Int).toNat * 3 + k = i * 3 + k + 1 + 1 by simp; omega]
  show _ :: _ :: (gs.flatMap GX.row).set (i * 3 + k) v = _
  rw [rows_set h hk e]
theorem rows_len : ∀ {gs : List GX}, (gs.flatMap GX.row).length = 3 * gs.length
  | [] => rfl
  | x :: gs => by rw [List.flatMap_cons, List.length_append, rows_len, List.length_cons]; show 3 + _ = _; omega
theorem ult {k : Nat} (h : gs[i]? = some g) (hk : k < 3) : Nat.ble (0 + 2 + ((i : Nat) : Int).toNat * 3 + k + 1) (ucells bs bt gs).length = true := by
  have hi := (List.getElem?_eq_some_iff.1 h).1
  rw [Nat.ble_eq]
  show _ ≤ (gs.flatMap GX.row).length + 1 + 1
  rw [rows_len]; simp; omega
theorem guest_put (h2 : u.g.length = 8) (hi : i < 8) {x : Gs} : (u.putG i x).guest i = x := by
  show (u.g.set i x).getD i _ = x
  rw [List.getD_eq_getElem?_getD, List.getElem?_set, if_pos rfl, if_pos (by omega)]; rfl
theorem guest_other {j : Nat} (h : i ≠ j) {x : Gs} : (u.putG i x).guest j = u.guest j := by
  show (u.g.set i x).getD j _ = u.g.getD j _
  rw [List.getD_eq_getElem?_getD, List.getD_eq_getElem?_getD, List.getElem?_set, if_neg h]
theorem cV_one {l : List Int} : ∀ x ∈ cV l, x.oneCell' = true := fun x hx => by obtain ⟨y, _, rfl⟩ := List.mem_map.1 hx; rfl
theorem cut_codes {a : Option Addr} {c k : Nat} {l : List Int} (C : Gives L (Cells 1 (.slice a l.length c) l.length (cV l))) (hk : k ≤ l.length) (hc : l.length ≤ c) :
    ∃ a' c', sliced a k l.length c 1 = .slice a' (l.drop k).length c' ∧ Gives L (Cells 1 (.slice a' (l.drop k).length c') (l.drop k).length (cV (l.drop k))) := by
  refine ⟨if c = k then a else a.map (·.add (k * 1)), c - k, by rw [List.length_drop]; rfl, fun h H => ?_⟩
  have c1 := (C h H).cut (l := k) (h := l.length) (m := c) hk (Nat.le_refl _) hc (Nat.le_refl _)
  have e1 : ((cV l).drop (k * 1)).take ((l.length - k) * 1) = cV (l.drop k) := by
    rw [Nat.mul_one, Nat.mul_one, List.take_of_length_le (by simp [cV])]
    simp [cV, List.map_drop]
  rw [e1] at c1
  have e2 : sliced a k l.length c 1 = .slice (if c = k then a else a.map (·.add (k * 1))) (l.drop k).length (c - k) := by rw [List.length_drop]; rfl
  rw [e2] at c1
  rw [← List.length_drop] at c1
  exact c1
theorem cV_get {l : List Int} {k : Nat} {x : Int} (h : l[k]? = some x) : ((cV l).drop (k * 1)).take 1 = [.int .i64 x] := by
  have hlt := (List.getElem?_eq_some_iff.1 h).1
  have he := (List.getElem?_eq_some_iff.1 h).2
  unfold cV
  rw [Nat.mul_one, ← List.map_drop, ← List.map_take, List.drop_eq_getElem_cons hlt, List.take_succ_cons, List.take_zero, he]
  rfl
theorem set_same (h : gs[i]? = some g) : gs.set i g = gs := by
  apply List.ext_getElem?
  intro j
  rw [List.getElem?_set]
  split
  · rename_i e; subst e
    have := (List.getElem?_eq_some_iff.1 h).1
    rw [if_pos this, h]
  · rfl
theorem putG_same (h2 : u.g.length = 8) (hi : i < 8) : u.putG i (u.guest i) = u := by
  have e : u.g.set i (u.guest i) = u.g := by
    apply List.ext_getElem?
    intro j
    rw [List.getElem?_set]
    split
    · rename_i e; subst e
      rw [if_pos (by omega)]
      unfold Un.guest
      rw [List.getD_eq_getElem?_getD, List.getElem?_eq_getElem (by omega)]; rfl
    · rfl
  show ({ u with g := u.g.set i (u.guest i) } : Un) = u
  rw [e]
theorem tell_same {x : Int} (h2 : u.g.length = 8) (hi : i < 8) (h : x ∈ (u.guest i).codes) : u.tell i x = u := by
  have e0 : (u.guest i).tell x = u.guest i := by
    show ({ u.guest i with codes := if x ∈ (u.guest i).codes then (u.guest i).codes else (u.guest i).codes ++ [x] } : Gs) = _
    rw [if_pos h]
  unfold Un.tell
  rw [e0, putG_same h2 hi]
theorem tell_len {j : Nat} {x : Int} (h2 : u.g.length = 8) : (u.tell j x).g.length = 8 := put_len h2
theorem resetN_len (h2 : u.g.length = 8) : ∀ n, (resetN u n).g.length = 8
  | 0 => h2
  | n + 1 => tell_len (resetN_len h2 n)
theorem resetN_guest {j : Nat} : ∀ n, n ≤ j → (resetN u n).guest j = u.guest j
  | 0, _ => rfl
  | n + 1, h => by
    show ((resetN u n).putG n _).guest j = _
    rw [guest_other (by omega), resetN_guest n (by omega)]
theorem resetN_done {j : Nat} (h2 : u.g.length = 8) : ∀ n, j < n → n ≤ 8 → (resetN u n).guest j = (u.guest j).tell 10499
  | 0, h, _ => by omega
  | n + 1, h, h8 => by
    show ((resetN u n).putG n _).guest j = _
    by_cases e : n = j
    · subst e
      rw [guest_put (resetN_len h2 n) (by omega), resetN_guest n (Nat.le_refl _)]
    · rw [guest_other e, resetN_done h2 n (by omega) (by omega)]
def doM (u : Un) (h : Int) (c : Cm) : Un × Rp :=
  if hostB h = false ∨ c.kind < 1 ∨ 18 < c.kind then (u, plain 2 5 8192)
  else if c.kind = 9 then
    match (u.guest h.toNat).codes with
    | [] => (u, gave (senseB 0 0))
    | x :: l => (u.putG h.toNat (u.guest h.toNat).pop, gave (senseB 6 x.toNat))
  else if c.kind ≠ 8 ∧ (u.guest h.toNat).codes ≠ [] then (u.putG h.toNat (u.guest h.toNat).pop, plain 2 6 ((u.guest h.toNat).codes.headD 0))
  else if allowB u.t h c.kind = false then (u, plain 24 0 0)
  else actM u h.toNat c
theorem doM_bad {hh : Int} {c : Cm} (h : hostB hh = false ∨ c.kind < 1 ∨ 18 < c.kind) : doM u hh c = (u, plain 2 5 8192) := by unfold doM; rw [if_pos h]
theorem host_nat (hi : i < 8) : hostB (i : Int) = true := hostB_iff.2 ⟨by omega, by omega⟩
theorem doM_in {c : Cm} (hi : i < 8) (h1 : 1 ≤ c.kind) (h18 : c.kind ≤ 18) : ¬ (hostB (i : Int) = false ∨ c.kind < 1 ∨ 18 < c.kind) := by
  rw [host_nat hi]; rintro (h | h | h); cases h; omega; omega
theorem doM_sense0 {c : Cm} (hi : i < 8) (hk : c.kind = 9) (hc : (u.guest i).codes = []) : doM u i c = (u, gave (senseB 0 0)) := by
  unfold doM; rw [if_neg (doM_in hi (by omega) (by omega)), if_pos hk, Int.toNat_natCast, hc]
theorem doM_sense1 {c : Cm} {x : Int} {l : List Int} (hi : i < 8) (hk : c.kind = 9) (hc : (u.guest i).codes = x :: l) : doM u i c = (u.putG i (u.guest i).pop, gave (senseB 6 x.toNat)) := by
  unfold doM; rw [if_neg (doM_in hi (by omega) (by omega)), if_pos hk, Int.toNat_natCast, hc]
theorem doM_pop {c : Cm} {x : Int} {l : List Int} (hi : i < 8) (h1 : 1 ≤ c.kind) (h18 : c.kind ≤ 18) (h9 : c.kind ≠ 9) (h8 : c.kind ≠ 8) (hc : (u.guest i).codes = x :: l) : doM u i c = (u.putG i (u.guest i).pop, plain 2 6 x) := by
  unfold doM; rw [if_neg (doM_in hi h1 h18), if_neg h9, Int.toNat_natCast, if_pos ⟨h8, by rw [hc]; simp⟩, hc]; rfl
theorem doM_free {c : Cm} (h : c.kind = 8 ∨ (u.guest i).codes = []) : ¬ (c.kind ≠ 8 ∧ (u.guest i).codes ≠ []) := by
  rintro ⟨h1, h2⟩; rcases h with h | h; exact h1 h; exact h2 h
theorem doM_no {c : Cm} (hi : i < 8) (h1 : 1 ≤ c.kind) (h18 : c.kind ≤ 18) (h9 : c.kind ≠ 9) (h : c.kind = 8 ∨ (u.guest i).codes = []) (ha : ¬ allowP u.t i c.kind) : doM u i c = (u, plain 24 0 0) := by
  unfold doM; rw [if_neg (doM_in hi h1 h18), if_neg h9, Int.toNat_natCast, if_neg (doM_free h), if_pos (by rw [← Bool.not_eq_true, allowB_iff]; exact ha)]
theorem doM_go {c : Cm} (hi : i < 8) (h1 : 1 ≤ c.kind) (h18 : c.kind ≤ 18) (h9 : c.kind ≠ 9) (h : c.kind = 8 ∨ (u.guest i).codes = []) (ha : allowP u.t i c.kind) : doM u i c = actM u i c := by
  unfold doM; rw [if_neg (doM_in hi h1 h18), if_neg h9, Int.toNat_natCast, if_neg (doM_free h), if_neg (by rw [allowB_iff.2 ha]; decide)]
/-! ### A new one -/
def zrow : List Value := [.slice none 0 0, .int .u64 0, .map none]
def zG (mb : Nat) : GX := ⟨⟨[], 0, []⟩, none, 0, mb, 0, []⟩
abbrev ncells (bs bt : Nat) (gs : List GX) (k : Nat) : List Value := .pointer (some ⟨bs, 0, none⟩) :: .pointer (some ⟨bt, 0, none⟩) :: (gs.flatMap GX.row ++ (List.replicate k zrow).flatten)
theorem nset {mb k : Nat} (hk : gs.length = i) : (ncells bs bt gs (k + 1)).set (0 + 2 + ((i : Nat) : Int).toNat * 3 + 2) (.map (some mb)) = ncells bs bt (gs ++ [zG mb]) k := by
  rw [show 0 + 2 + ((i : Nat) : Int).toNat * 3 + 2 = i * 3 + 2 + 1 + 1 by simp; omega]
  show _ :: _ :: (gs.flatMap GX.row ++ (List.replicate (k + 1) zrow).flatten).set (i * 3 + 2) _ = _ :: _ :: ((gs ++ [zG mb]).flatMap GX.row ++ (List.replicate k zrow).flatten)
  rw [List.set_append_right _ _ (by rw [rows_len]; omega), rows_len, hk, show i * 3 + 2 - 3 * i = 2 by omega, List.replicate_succ, List.flatten_cons, List.flatMap_append, List.append_assoc]
  rfl
theorem nlt {k : Nat} (hk : gs.length = i) : Nat.ble (0 + 2 + ((i : Nat) : Int).toNat * 3 + 2 + 1) (ncells bs bt gs (k + 1)).length = true := by
  rw [Nat.ble_eq]
  show _ ≤ (gs.flatMap GX.row ++ (List.replicate (k + 1) zrow).flatten).length + 1 + 1
  rw [List.length_append, rows_len, List.replicate_succ, List.flatten_cons, List.length_append]
  show _ ≤ 3 * gs.length + (3 + _) + 1 + 1
  simp; omega
theorem zG_own {mb : Nat} (H : On W0 (MapC mb .u64 [] 0 :: L) w) : On W0 (GOwn pool (zG mb) :: L) w :=
  closeG ⟨List.Perm.refl _, List.nodup_nil, fun x hx => by cases hx⟩ (H.ownEmpty 1 none)
end
end Go.Sl.UnM
/-
  A unit: numbers, what is told, attentions: the contracts. Lines of walks printed by a program of the prover's.
-/
namespace Go.Proofs.YtjbgiingimhnnaaGreat
open Go.Proofs.Tryz
open Go Go.Sl Go.Sl.BitM Go.Sl.SpM Go.Sl.RsM Go.Sl.ByM Go.Sl.UnM
set_option linter.unusedVariables false
set_option linter.unusedSimpArgs false
set_option maxHeartbeats 1000000
set_option maxRecDepth 8000
variable {W0 w : World} {L F : List HProp}
theorem bput_ok {ax : Option Addr} {cx v n : Nat} {bs : List UInt8} (h : On W0 L w) (C : Gives L (Bytes (.slice ax bs.length cx) bs)) (hn1 : 1 ≤ n) (hn8 : n ≤ 8) (hv : v < 18446744073709551616) (hb : bs.length ≤ 140737488350000) : Calls Tryz.prog 59 #[.slice ax bs.length cx, .int .u64 (v : Int), .int .i64 (n : Int)] (w) (Ret fun r w' => ∃ a, r = .slice a (bs ++ be v n).length (bs ++ be v n).length ∧ On W0 (OwnB (.slice a (bs ++ be v n).length (bs ++ be v n).length) (bs ++ be v n) :: L) w') := by
  refine enter func59 rfl ntmps59 rfl ?_
  have hmx := maxLen_eq
  unfold be
  refine W.seq (W.region (WL.val run_assign rfl rfl (WL.nil (W.seq (W.region (WL.val run_move rfl rfl (WL.eff (eff_call call57 (clone_bytes h C (by omega))) rfl rfl ?_)))))))
  rintro _ w ⟨a10, c10, rfl, h⟩
  refine WL.val run_assign rfl rfl (WL.nil (W.seq (W.seq (W.region (WL.val run_move rfl rfl (WL.val (run_lssF rfl rfl (by omega)) rfl rfl (WL.val run_move rfl rfl ?_)))))))
  refine WL.val run_move rfl rfl (WL.val (run_gtrF rfl rfl (by omega)) rfl rfl (WL.val (run_pickF rfl) rfl rfl (WL.nil (W.condF rfl (W.skip (W.seq (W.seq ?_)))))))
  refine W.region (WL.val run_move rfl rfl (WL.val (run_subN (m := n) (n := 1) rfl rfl (by omega) (by omega)) rfl rfl (WL.val run_assign rfl rfl (WL.nil (W.block ?_)))))
  refine W.loop (fun (k : Nat) env w => ∃ (j : Env) (ao : Option Addr) (co : Nat) (z : Int), env = mkE j [(1, .int .u64 (v : Int)), (7, .slice ao (bs ++ ByM.putK v n k).length co), (8, .int .i64 z)] ∧ k ≤ n ∧ z = (n : Int) - 1 - k ∧ On W0 (OwnB (.slice ao (bs ++ ByM.putK v n k).length co) (bs ++ ByM.putK v n k) :: L) w) (fun k => n - k) (0) ?_ ?_
  · have e0 : bs ++ ByM.putK v n 0 = bs := by simp [ByM.putK]
    refine ⟨_, a10, c10, ((n - 1 : Nat) : Int), mkE_of ⟨rfl, (by rw [e0]; rfl), rfl, trivial⟩, Nat.zero_le _, by omega, (by rw [e0]; exact h)⟩
  rintro k env w ⟨j, ao, co, z, rfl, hk, hz, h⟩
  have hpl : (bs ++ ByM.putK v n k).length = bs.length + k := by rw [List.length_append, ByM.putK_length]
  refine W.seq (W.seq (W.region (WL.val run_move rfl rfl (WL.val (run_geq rfl rfl) rfl rfl (WL.nil ?_)))))
  refine W.condIf rfl (fun c11 => ?_) (fun c11 => ?_)
  ·
   refine W.skip (W.seq (W.block ?_))
   have ob_ := Int.eq_ofNat_of_zero_le (show 0 ≤ z by omega)
   obtain ⟨q, rfl⟩ := ob_
   have hq : n - 1 - k = q := by omega
   have e1 : bs ++ ByM.putK v n (k + 1) = (bs ++ ByM.putK v n k) ++ [UInt8.ofNat (v / 2 ^ (8 * q))] := by rw [ByM.putK_succ, hq, List.append_assoc]
   have el : (bs ++ ByM.putK v n (k + 1)).length = (bs ++ ByM.putK v n k).length + 1 := by rw [e1, List.length_append]; rfl
   refine W.region (WL.val run_move rfl rfl (WL.val run_move rfl rfl (WL.val run_move rfl rfl (WL.val (run_mulN (m := 8) (n := q) rfl rfl (by omega)) rfl rfl (WL.val (run_shrN (m := v) (j := 8 * q) rfl rfl (by show 8 * q ≤ 64; omega)) rfl rfl (WL.val (run_convByte underlying23 underlying5 rfl) rfl rfl (WL.eff (eff_mkSlice (zl := [.int .u8 0]) (out := [.int .u8 _]) h underlying22 sizeOf5 zeroValue5 (by decide) (by kernel_rfl) rfl rfl (by simp) (⟨⟨_, _, rfl, rfl, by decide⟩, trivial⟩) rfl rfl (by simp [maxLen])) rfl rfl ?_)))))))
   rintro _ w ⟨b30, rfl, h⟩
   refine WL.eff (eff_app (c2 := 1) (bytes := 1) h rfl rfl (h.cellsO (v := .slice (some ⟨b30, 0, none⟩) 1 1)) underlying22 rfl rfl rfl rfl rfl (by omega) (by omega) (by simp [Value.oneCell'])) rfl rfl ?_
   rintro _ w ⟨a31, c31, rfl, h⟩
   have hbv : bytesV (bs ++ ByM.putK v n k) ++ [.int .u8 (((UInt8.ofNat (v / 2 ^ (8 * q))).toNat : Nat) : Int)] = bytesV ((bs ++ ByM.putK v n k) ++ [UInt8.ofNat (v / 2 ^ (8 * q))]) := by simp [bytesV, byteV]
   have h : On W0 (Own 1 (.slice a31 ((bs ++ ByM.putK v n k).length + 1) c31) ((bs ++ ByM.putK v n k).length + 1) (bytesV (bs ++ ByM.putK v n k) ++ [.int .u8 (((UInt8.ofNat (v / 2 ^ (8 * q))).toNat : Nat) : Int)]) :: _) w := h
   rw [hbv] at h
   refine WL.val run_assign rfl rfl (WL.nil (W.region (WL.val run_move rfl rfl (WL.val (run_sub rfl rfl (by omega) (by omega)) rfl rfl (WL.val run_assign rfl rfl (WL.nil ?_))))))
   exact ⟨k + 1, ⟨_, a31, c31, (q : Int) - 1, mkE_of ⟨rfl, (by rw [el]; rfl), rfl, trivial⟩, by omega, by omega, (by unfold OwnB; rw [el, e1]; exact h.to)⟩, by show n - (k + 1) < n - k; omega⟩
  refine W.exit (W.seq (W.region (WL.val run_move rfl rfl (WL.eff (eff_call call51 (clip_bytes h)) rfl rfl ?_))))
  rintro _ w ⟨rfl, h⟩
  refine WL.val run_assign rfl rfl (WL.nil (W.ret (bodyQ.r1 (v := .slice _ _ _) results59 rfl ?_)))
  have ob_ : k = n := by omega
  obtain rfl := ob_
  exact ⟨ao, rfl, h⟩
theorem bget_ok {ax : Option Addr} {cx : Nat} {bs : List UInt8} {at_ n : Int} (h : On W0 L w) (C : Gives L (Bytes (.slice ax bs.length cx) bs)) : Calls Tryz.prog 52 #[.slice ax bs.length cx, .int .i64 at_, .int .i64 n] (w) (Ret fun v w' => ((1 ≤ n ∧ n ≤ 8 ∧ 0 ≤ at_ ∧ at_ ≤ bs.length ∧ n ≤ bs.length - at_) ∧ v = .tuple #[.int .u64 (beV ((bs.drop at_.toNat).take n.toNat) : Int), .bool true] ∧ On W0 L w') ∨ (¬ (1 ≤ n ∧ n ≤ 8 ∧ 0 ≤ at_ ∧ at_ ≤ bs.length ∧ n ≤ bs.length - at_) ∧ v = .tuple #[.int .u64 0, .bool false] ∧ On W0 L w')) := by
  refine enter func52 rfl ntmps52 rfl ?_
  have hmx := maxLen_eq
  have ob_ := Cells.bounds (h.readsTo C)
  obtain ⟨hbc, hbm⟩ := ob_
  refine W.seq (W.region (WL.val run_assign rfl rfl (WL.val run_assign rfl rfl (WL.nil (W.seq (W.seq (W.region ?_)))))))
  refine WL.val run_move rfl rfl ?_
  refine WL.dec (run_lss rfl rfl) rfl rfl (fun c12 => ?_) (fun c12 => ?_)
  ·
   refine WL.val run_move rfl rfl (WL.skip rfl rfl (WL.skip rfl rfl (WL.val (run_pickT rfl) rfl rfl (WL.val run_move rfl rfl (WL.skip rfl rfl (WL.skip rfl rfl (WL.val (run_pickT rfl) rfl rfl ?_)))))))
   refine WL.val run_move rfl rfl (WL.skip rfl rfl (WL.skip rfl rfl (WL.skip rfl rfl (WL.skip rfl rfl (WL.val (run_pickT rfl) rfl rfl (WL.val run_move rfl rfl (WL.skip rfl rfl ?_)))))))
   refine WL.skip rfl rfl (WL.skip rfl rfl (WL.skip rfl rfl (WL.skip rfl rfl (WL.skip rfl rfl (WL.val (run_pickT rfl) rfl rfl (WL.nil (W.condT rfl ?_)))))))
   refine W.seq (W.region (WL.val run_assign rfl rfl (WL.val run_assign rfl rfl (WL.nil (W.ret (bodyQ.r2 (v1 := .int .u64 _) (v2 := .bool _) results52 rfl rfl ?_))))))
   exact .inr ⟨by omega, rfl, h⟩
  refine WL.val run_move rfl rfl (WL.val run_move rfl rfl ?_)
  refine WL.dec (run_gtr rfl rfl) rfl rfl (fun c15 => ?_) (fun c15 => ?_)
  ·
   refine WL.val (run_pickF rfl) rfl rfl (WL.val run_move rfl rfl (WL.skip rfl rfl (WL.skip rfl rfl (WL.val (run_pickT rfl) rfl rfl (WL.val run_move rfl rfl (WL.skip rfl rfl (WL.skip rfl rfl ?_)))))))
   refine WL.skip rfl rfl (WL.skip rfl rfl (WL.val (run_pickT rfl) rfl rfl (WL.val run_move rfl rfl (WL.skip rfl rfl (WL.skip rfl rfl (WL.skip rfl rfl (WL.skip rfl rfl ?_)))))))
   refine WL.skip rfl rfl (WL.skip rfl rfl (WL.val (run_pickT rfl) rfl rfl (WL.nil (W.condT rfl (W.seq (W.region (WL.val run_assign rfl rfl ?_)))))))
   refine WL.val run_assign rfl rfl (WL.nil (W.ret (bodyQ.r2 (v1 := .int .u64 _) (v2 := .bool _) results52 rfl rfl ?_)))
   exact .inr ⟨by omega, rfl, h⟩
  refine WL.val (run_pickF rfl) rfl rfl (WL.val run_move rfl rfl (WL.val run_move rfl rfl ?_))
  refine WL.dec (run_lss rfl rfl) rfl rfl (fun c19 => ?_) (fun c19 => ?_)
  ·
   refine WL.val (run_pickF rfl) rfl rfl (WL.val run_move rfl rfl (WL.skip rfl rfl (WL.skip rfl rfl (WL.skip rfl rfl (WL.skip rfl rfl (WL.val (run_pickT rfl) rfl rfl (WL.val run_move rfl rfl ?_)))))))
   refine WL.skip rfl rfl (WL.skip rfl rfl (WL.skip rfl rfl (WL.skip rfl rfl (WL.skip rfl rfl (WL.skip rfl rfl (WL.val (run_pickT rfl) rfl rfl (WL.nil ?_)))))))
   refine W.condT rfl (W.seq (W.region (WL.val run_assign rfl rfl (WL.val run_assign rfl rfl (WL.nil (W.ret (bodyQ.r2 (v1 := .int .u64 _) (v2 := .bool _) results52 rfl rfl ?_)))))))
   exact .inr ⟨by omega, rfl, h⟩
  refine WL.val (run_pickF rfl) rfl rfl (WL.val run_move rfl rfl (WL.val run_move rfl rfl (WL.val run_move rfl rfl (WL.val (run_lenSlice underlying22 rfl) rfl rfl ?_))))
  refine WL.dec (run_gtr rfl rfl) rfl rfl (fun c25 => ?_) (fun c25 => ?_)
  ·
   refine WL.val (run_pickF rfl) rfl rfl (WL.val run_move rfl rfl (WL.skip rfl rfl (WL.skip rfl rfl (WL.skip rfl rfl (WL.skip rfl rfl (WL.skip rfl rfl (WL.skip rfl rfl ?_)))))))
   refine WL.val (run_pickT rfl) rfl rfl (WL.nil (W.condT rfl (W.seq (W.region (WL.val run_assign rfl rfl (WL.val run_assign rfl rfl (WL.nil ?_)))))))
   refine W.ret (bodyQ.r2 (v1 := .int .u64 _) (v2 := .bool _) results52 rfl rfl ?_)
   exact .inr ⟨by omega, rfl, h⟩
  refine WL.val (run_pickF rfl) rfl rfl (WL.val run_move rfl rfl (WL.val run_move rfl rfl (WL.val run_move rfl rfl (WL.val (run_lenSlice underlying22 rfl) rfl rfl (WL.val run_move rfl rfl (WL.val (run_sub rfl rfl (by omega) (by omega)) rfl rfl (WL.val (run_gtr rfl rfl) rfl rfl ?_)))))))
  refine WL.val (run_pickF rfl) rfl rfl (WL.nil ?_)
  refine W.condIf rfl (fun c2 => ?_) (fun c2 => ?_)
  ·
   refine W.seq (W.region (WL.val run_assign rfl rfl (WL.val run_assign rfl rfl (WL.nil (W.ret (bodyQ.r2 (v1 := .int .u64 _) (v2 := .bool _) results52 rfl rfl ?_))))))
   exact .inr ⟨by omega, rfl, h⟩
  refine W.skip (W.seq ?_)
  have hok : (1 ≤ n ∧ n ≤ 8 ∧ 0 ≤ at_ ∧ at_ ≤ bs.length ∧ n ≤ bs.length - at_) := by omega
  have ob_ := Int.eq_ofNat_of_zero_le (show 0 ≤ at_ by omega)
  obtain ⟨p, rfl⟩ := ob_
  have ob_ := Int.eq_ofNat_of_zero_le (show 0 ≤ n by omega)
  obtain ⟨q, rfl⟩ := ob_
  have hpq : p + q ≤ bs.length := by omega
  have ob_ := cut_bytes (l := p) (h := p + q) C hbc (by omega) hpq
  obtain ⟨a', c', hcut, gC⟩ := ob_
  have hpl : ((bs.drop p).take (p + q - p)).length = q := by rw [List.length_take, List.length_drop]; omega
  have epq : p + q - p = q := by omega
  rw [epq] at hcut gC hpl
  refine W.region (WL.val run_assign rfl rfl (WL.nil (W.seq (W.seq (W.region (WL.val run_move rfl rfl (WL.val run_move rfl rfl ?_)))))))
  refine WL.val run_move rfl rfl (WL.val run_move rfl rfl (WL.val (run_addN (m := p) (n := q) rfl rfl (by omega)) rfl rfl (WL.val (run_cutLHV (l := p) (h := p + q) underlying22 sizeOf5 rfl rfl rfl (by omega) (by omega) hcut) rfl rfl (WL.val (run_lenSlice underlying22 rfl) rfl rfl (WL.val run_move rfl rfl (WL.nil (W.block ?_)))))))
  refine W.loop (fun (k : Nat) env w => k ≤ q ∧ ∃ j, env = mkE j [(8, .int .u64 (beV ((bs.drop p).take k) : Nat)), (40, .slice a' ((bs.drop p).take q).length c'), (41, .int .i64 (((bs.drop p).take q).length : Nat)), (42, .int .i64 (k : Nat))] ∧ On W0 L w) (fun k => q - k) (0) ?_ ?_
  · exact ⟨Nat.zero_le _, _, mkE_of ⟨rfl, rfl, rfl, rfl, trivial⟩, h⟩
  rintro k env w ⟨hk, j, rfl, h⟩
  refine W.seq (W.region (WL.val (run_lss rfl rfl) rfl rfl (WL.nil (W.seq ?_))))
  refine W.condIf rfl (fun c11 => ?_) (fun c11 => ?_)
  ·
   refine W.skip (W.seq (W.block (W.seq ?_)))
   have hkq : k < q := by omega
   have ob_ : ∃ c, ((bs.drop p).take q)[k]? = some c := ⟨((bs.drop p).take q)[k]'(by omega), List.getElem?_eq_getElem _⟩
   obtain ⟨c, hc⟩ := ob_
   have hc2 : (bs.drop p)[k]? = some c := by rw [List.getElem?_take, if_pos hkq] at hc; exact hc
   have gg := h.readsTo gC
   have ob_ := Cells.addr gg (by omega)
   obtain ⟨ba, oa, haa⟩ := ob_
   subst haa
   have hlt : beV ((bs.drop p).take k) < 2 ^ 56 := by
     have h1 := beV_lt ((bs.drop p).take k)
     have h2 : ((bs.drop p).take k).length ≤ 7 := by rw [List.length_take]; omega
     have h3 : 256 ^ ((bs.drop p).take k).length ≤ 256 ^ 7 := Nat.pow_le_pow_right (by decide) h2
     omega
   have hstep : beV ((bs.drop p).take (k + 1)) = beV ((bs.drop p).take k) * 2 ^ 8 ||| c.toNat := by
     rw [Go.Sl.take_snoc hc2, beV_snoc, show (2 : Nat) ^ 8 = 256 from rfl, or_byte]
   have hc8 := c.toNat_lt
   have hb1 : beV ((bs.drop p).take k) * 2 ^ 8 ≤ 18446744073709551615 := by omega
   have hb2 : c.toNat ≤ 18446744073709551615 := by omega
   have hb3 : beV ((bs.drop p).take k) * 2 ^ 8 ||| c.toNat ≤ 18446744073709551615 := by
     rw [← hstep]
     have h1 := beV_lt ((bs.drop p).take (k + 1))
     have h2 : ((bs.drop p).take (k + 1)).length ≤ 8 := by rw [List.length_take]; omega
     have h3 : 256 ^ ((bs.drop p).take (k + 1)).length ≤ 256 ^ 8 := Nat.pow_le_pow_right (by decide) h2
     omega
   refine W.region (WL.val (run_indexAddr underlying22 sizeOf5 rfl rfl (by omega) (by omega)) rfl rfl (WL.val (run_load1 isAgg5 rfl ((h.readsTo gC).elem (i := k) (vs := [.int .u8 (c.toNat : Int)]) (by omega) (bytes_row hc) 0 _ rfl)) rfl rfl (WL.val run_assign rfl rfl (WL.nil (W.region (WL.val run_move rfl rfl (WL.val (run_shlN (m := beV ((bs.drop p).take k)) (j := 8) rfl rfl (by decide) (Int.ofNat_le.2 hb1)) rfl rfl ?_)))))))
   refine WL.val run_move rfl rfl (WL.val (run_convIn underlying5 underlying23 rfl (by show (0 : Int) ≤ _; omega) (Int.ofNat_le.2 hb2)) rfl rfl (WL.val (run_orN (k := .u64) (m := beV ((bs.drop p).take k) * 2 ^ 8) (n := c.toNat) rfl rfl (Int.ofNat_le.2 hb1) (Int.ofNat_le.2 hb2) (Int.ofNat_le.2 hb3)) rfl rfl (WL.val run_assign rfl rfl (WL.nil (W.region (WL.val (run_add rfl rfl (by omega) (by omega)) rfl rfl (WL.val run_move rfl rfl ?_)))))))
   refine WL.nil ?_
   exact ⟨k + 1, ⟨by omega, _, mkE_of ⟨(congrArg (fun z : Nat => Value.int .u64 (z : Int)) hstep).symm, rfl, rfl, rfl, trivial⟩, h⟩, by show q - (k + 1) < q - k; omega⟩
  refine W.exit (W.seq (W.region (WL.val run_move rfl rfl (WL.val run_assign rfl rfl (WL.val run_assign rfl rfl (WL.nil (W.ret ?_)))))))
  refine bodyQ.r2 (v1 := .int .u64 _) (v2 := .bool _) results52 rfl rfl ?_
  have ob_ : k = q := by omega
  obtain rfl := ob_
  exact .inl ⟨hok, rfl, h⟩
theorem bequal_ok {ax : Option Addr} {cx : Nat} {bs : List UInt8} {ay : Option Addr} {cy : Nat} {cs : List UInt8} (h : On W0 L w) (C : Gives L (Bytes (.slice ax bs.length cx) bs)) (C2 : Gives L (Bytes (.slice ay cs.length cy) cs)) : Calls Tryz.prog 24 #[.slice ax bs.length cx, .slice ay cs.length cy] w (Ret fun v w' => v = .bool (decide (bs = cs)) ∧ On W0 L w') := by
  refine enter func24 rfl ntmps24 rfl (W.seq (W.region (WL.val run_assign rfl rfl (WL.nil (W.seq (W.region (WL.val run_move rfl rfl ?_)))))))
  refine WL.val (run_bytesStr underlying22 underlying5 underlying9 rfl (h.readsTo C)) rfl rfl (WL.val run_move rfl rfl (WL.val (run_bytesStr underlying22 underlying5 underlying9 rfl (h.readsTo C2)) rfl rfl (WL.val (run_eqlStr rfl rfl) rfl rfl (WL.val run_assign rfl rfl (WL.nil (W.ret (bodyQ.r1 (v := .bool _) results24 rfl ?_)))))))
  exact ⟨congrArg Value.bool (decide_eq_decide.2 (by simp only [Go.ByteArray.toList_eq])), h⟩
theorem clone_ints {ao : Option Addr} {cap : Nat} {l : List Int} (h : On W0 L w) (C : Gives L (Cells 1 (.slice ao l.length cap) l.length (cV l))) (hn : l.length ≤ 1000000000000) :
    Calls Tryz.prog 41 #[.slice ao l.length cap] w (Ret fun v w' => ∃ a c, v = .slice a l.length c ∧ On W0 (Own 1 (.slice a l.length c) l.length (cV l) :: L) w') := by
  refine enter func41 rfl ntmps41 rfl ?_
  have ob_ := (h.reads C).form
  obtain ⟨ao', cap', hv, hnc, hcm, hnone⟩ := ob_
  simp only [Value.slice.injEq] at hv
  obtain ⟨rfl, _, rfl⟩ := hv
  have hl := maxLen_eq
  refine W.seq (W.region (WL.val run_assign rfl rfl (WL.nil (W.seq (W.seq (W.region (WL.val run_move rfl rfl ?_)))))))
  refine WL.val (run_eqlSliceNil underlying62 rfl rfl) rfl rfl (WL.nil ?_)
  refine W.condB rfl (fun c2 => ?_) (fun c2 => ?_)
  ·
   refine W.seq (W.region (WL.val run_assign rfl rfl (WL.nil (W.ret (bodyQ.r1 (v := .slice _ _ _) results41 rfl ?_)))))
   have h0 : cap = 0 := hnone (by simpa using c2)
   have hb : l = [] := List.eq_nil_of_length_eq_zero (by omega)
   subst hb
   exact ⟨none, 0, rfl, h.ownEmpty 1 none⟩
  refine W.skip (W.seq (W.region (WL.eff (eff_mkSlice (zl := []) (out := []) h underlying62 sizeOf3 zeroValue3 (by decide) (by simp) rfl rfl (by simp) (trivial) rfl rfl (by simp [maxLen])) rfl rfl ?_)))
  rintro _ w ⟨b5, rfl, h⟩
  refine WL.val run_move rfl rfl (WL.eff (eff_app0 (bytes := 8) h rfl rfl (h.readsTo C) underlying62 rfl rfl rfl rfl rfl (by omega) (by omega) (cV_one)) rfl rfl ?_)
  rintro _ w ⟨a, c, rfl, h⟩
  refine WL.val run_assign rfl rfl (WL.nil (W.ret (bodyQ.r1 (v := .slice _ _ _) results41 rfl ?_)))
  exact ⟨_, _, rfl, h⟩
theorem index_ints {ao : Option Addr} {cap : Nat} {l : List Int} {x : Int} (h : On W0 L w) (C : Gives L (Cells 1 (.slice ao l.length cap) l.length (cV l))) : Calls Tryz.prog 144 #[.slice ao l.length cap, .int .i64 x] w (Ret fun v w' => (∃ z : Int, v = .int .i64 z ∧ (0 ≤ z ↔ x ∈ l)) ∧ On W0 L w') := by
  refine enter func144 rfl ntmps144 rfl ?_
  have hmx := maxLen_eq
  have ob_ := (h.readsTo C).bounds
  obtain ⟨hbc, hbm⟩ := ob_
  refine W.seq (W.region (WL.val run_assign rfl rfl (WL.nil (W.seq (W.seq (W.region (WL.val run_move rfl rfl ?_)))))))
  refine WL.val (run_lenSlice underlying62 rfl) rfl rfl (WL.val run_move rfl rfl (WL.nil (W.block ?_)))
  refine W.loop (fun (k : Nat) env w => k ≤ l.length ∧ ∃ j, env = mkE j [(0, .slice ao l.length cap), (1, .int .i64 x), (7, .int .i64 (l.length : Nat)), (8, .int .i64 (k : Nat))] ∧ (∀ q, q < k → l[q]? ≠ some x) ∧ On W0 L w) (fun k => l.length - k) (0) ?_ ?_
  · exact ⟨Nat.zero_le _, _, mkE_of ⟨rfl, rfl, rfl, rfl, trivial⟩, (fun q hq => by omega), h⟩
  rintro k env w ⟨hk, j, rfl, hno, h⟩
  refine W.seq (W.region (WL.val (run_lss rfl rfl) rfl rfl (WL.nil (W.seq ?_))))
  refine W.condIf rfl (fun c5 => ?_) (fun c5 => ?_)
  ·
   refine W.skip (W.seq ?_)
   have ob_ : ∃ y, l[k]? = some y := ⟨l[k]'(by omega), by simp⟩
   obtain ⟨y, hy⟩ := ob_
   have ob_ := (h.readsTo C).addr (by omega)
   obtain ⟨bx, ox, rfl⟩ := ob_
   refine W.block (W.seq (W.region (WL.val run_move rfl rfl (WL.val run_assign rfl rfl (WL.nil (W.seq (W.region ?_)))))))
   refine WL.val run_move rfl rfl (WL.val run_move rfl rfl (WL.val run_move rfl rfl (WL.val (run_indexAddr underlying62 sizeOf3 rfl rfl (by omega) (by omega)) rfl rfl (WL.val (run_load1 isAgg3 rfl ((h.readsTo C).elem (i := k) (vs := [.int .i64 y]) (by omega) (cV_get hy) 0 _ rfl)) rfl rfl (WL.val (run_eql rfl rfl) rfl rfl (WL.nil ?_))))))
   refine W.condIf rfl (fun c11 => ?_) (fun c11 => ?_)
   ·
    refine W.seq (W.region (WL.val run_move rfl rfl (WL.val run_assign rfl rfl (WL.nil (W.ret (bodyQ.r1 (v := .int .i64 _) results144 rfl ?_))))))
    have e : x = y := c11
    subst e
    exact ⟨⟨_, rfl, iff_of_true (by omega) (List.mem_of_getElem? hy)⟩, h⟩
   refine W.skip (W.region (WL.val (run_incN rfl rfl (by omega)) rfl rfl (WL.val run_move rfl rfl (WL.nil ?_))))
   exact ⟨k + 1, ⟨by omega, _, mkE_of ⟨rfl, rfl, rfl, rfl, trivial⟩, (fun q hq => by
     by_cases hqk : q = k
     · subst hqk; rw [hy]; intro e; simp only [Option.some.injEq] at e; exact c11 e.symm
     · exact hno q (by omega)), h⟩, by show l.length - (k + 1) < l.length - k; omega⟩
  refine W.exit (W.seq (W.region (WL.val run_assign rfl rfl (WL.nil (W.ret (bodyQ.r1 (v := .int .i64 _) results144 rfl ?_))))))
  refine ⟨⟨_, rfl, iff_of_false (by decide) (fun hm => ?_)⟩, h⟩
  have ob_ := List.getElem?_of_mem hm
  obtain ⟨q, hq⟩ := ob_
  exact hno q (by have := (List.getElem?_eq_some_iff.1 hq).1; omega) hq
theorem contains_ints {ao : Option Addr} {cap : Nat} {l : List Int} {x : Int} (h : On W0 L w) (C : Gives L (Cells 1 (.slice ao l.length cap) l.length (cV l))) : Calls Tryz.prog 121 #[.slice ao l.length cap, .int .i64 x] w (Ret fun v w' => v = .bool (decide (x ∈ l)) ∧ On W0 L w') := by
  refine enter func121 rfl ntmps121 rfl (W.seq (W.region (WL.val run_assign rfl rfl (WL.nil (W.seq (W.region (WL.val run_move rfl rfl ?_)))))))
  refine WL.val run_move rfl rfl (WL.eff (eff_call call144 (index_ints h C)) rfl rfl ?_)
  rintro _ w ⟨⟨z, rfl, hz⟩, h⟩
  refine WL.val (run_geq rfl rfl) rfl rfl (WL.val run_assign rfl rfl (WL.nil (W.ret (bodyQ.r1 (v := .bool _) results121 rfl ?_))))
  exact ⟨congrArg Value.bool (decide_eq_decide.2 hz), h⟩
theorem sgood_ok {ax : Option Addr} {cx : Nat} {bs : List UInt8} (h : On W0 L w) (C : Gives L (Bytes (.slice ax bs.length cx) bs)) (hn : bs.length ≤ 1000000000000) : Calls Tryz.prog 28 #[.slice ax bs.length cx] w (Ret fun v w' => ∃ a, v = (gave bs).val (.slice a bs.length bs.length) ∧ On W0 (OwnB (.slice a bs.length bs.length) bs :: L) w') := by
  refine enter func28 rfl ntmps28 rfl (W.seq (W.region (WL.eff (eff_alloc h zeroValue36 rfl) rfl rfl ?_)))
  rintro _ w ⟨b2, rfl, h⟩
  refine WL.nil (W.seq (W.region (WL.val run_move rfl rfl (WL.eff (eff_call call57 (clone_bytes (bs := bs) h (Gives.to C) (by omega))) rfl rfl ?_))))
  rintro _ w ⟨a4, c4, rfl, h⟩
  refine WL.eff (eff_call call51 (clip_bytes h)) rfl rfl ?_
  rintro _ w ⟨rfl, h⟩
  refine WL.val (run_buildS (pl := [(0, 1), (1, 1), (2, 1), (3, 1), (4, 1)]) (out := [.int .i64 _, .int .i64 _, .int .i64 _, .slice _ _ _, .int .i64 _]) underlying36 zeroValue36 (fun w => by kernel_rfl) rfl (⟨⟨_, _, rfl, rfl, by decide⟩, ⟨⟨_, _, rfl, rfl, by decide⟩, trivial⟩⟩) rfl) rfl rfl (WL.eff (eff_storeW (vs := [.int .i64 _, .int .i64 _, .int .i64 _, .slice _ _ _, .int .i64 _]) h sizeOf36 rfl rfl rfl rfl rfl) rfl rfl ?_)
  rintro _ w h
  refine WL.nil (W.ret (bodyQ.rcB (vs := [.int .i64 _, .int .i64 _, .int .i64 _, .slice _ _ _, .int .i64 _]) h results28 isAgg36 sizeOf36 rfl rfl rfl ?_))
  exact ⟨a4, rfl, h.to⟩
theorem laid1_ok {bx bo n k at_ cy : Nat} {ay : Option Addr} {xs ys : List UInt8} (hat : at_ < n) (hk : ys.length = k) (hin : at_ + k ≤ n) (hn : n ≤ 1000) (h : On W0 (blk bx [.slice (some ⟨bo, 0, none⟩) n n] 22 :: Own 1 (.slice (some ⟨bo, 0, none⟩) n n) n (bytesV xs) :: L) w) (C : Gives L (Bytes (.slice ay ys.length cy) ys)) : Calls Tryz.prog 106 #[.int .i64 (at_ : Int), .slice ay k cy, .pointer (some ⟨bx, 0, none⟩)] w (Ret fun v w' => On W0 (blk bx [.slice (some ⟨bo, 0, none⟩) n n] 22 :: Own 1 (.slice (some ⟨bo, 0, none⟩) n n) n (bytesV (over xs at_ ys)) :: L) w') := by
  refine enter func106 rfl ntmps106 rfl ?_
  subst hk
  have ob_ := sliced_part (b := bo) (o := 0) (lo := at_) (hi := n) (c := n) (by omega) (Nat.le_refl _)
  obtain ⟨lo, hlo, hlo2⟩ := ob_
  have hlo3 : lo = at_ := by omega
  subst hlo3
  refine W.region (WL.val (run_load1 isAgg22 rfl (h.cellB rfl)) rfl rfl (WL.val run_move rfl rfl (WL.val (run_cutLV underlying22 sizeOf5 rfl rfl (by omega) hlo) rfl rfl (WL.val run_move rfl rfl (WL.eff (eff_copyIn (lo := lo) (m := n - lo) h.p1 rfl rfl (h.readsTo C) rfl underlying22 sizeOf5 (by omega) bytes_one) rfl rfl ?_)))))
  rintro _ w ⟨_, h⟩
  rw [List.take_of_length_le (by simp; omega), bytesV_over] at h
  refine WL.nil (bodyQ.fall (bodyQ.r0 results106 ?_))
  exact h.to
end Go.Proofs.YtjbgiingimhnnaaGreat
/-
  A unit: sense: the contracts. Lines of walks printed by a program of the prover's.
-/
namespace Go.Proofs.YtjbgiingimhnnaaGreat
open Go.Proofs.Tryz
open Go Go.Sl Go.Sl.BitM Go.Sl.SpM Go.Sl.RsM Go.Sl.ByM Go.Sl.UnM
set_option linter.unusedVariables false
set_option linter.unusedSimpArgs false
set_option maxHeartbeats 1000000
set_option maxRecDepth 8000
variable {W0 w : World} {L F : List HProp}
theorem laid_ok {ax : Option Addr} {n cx : Nat} (h : On W0 L w) : Calls Tryz.prog 58 #[.slice ax n cx] w (Ret fun v w' => ∃ bx, v = .func (.func 106) #[] #[.pointer (some ⟨bx, 0, none⟩)] ∧ On W0 (blk bx [.slice ax n cx] 22 :: L) w') := by
  refine enter func58 rfl ntmps58 rfl (W.seq (W.region (WL.eff (eff_box (v := .slice _ _ _) (l := [.slice _ _ _]) h rfl rfl) rfl rfl ?_)))
  rintro _ w ⟨b1, rfl, h⟩
  refine WL.val run_assign rfl rfl (WL.nil (W.seq (W.region (WL.val run_makeFunc rfl rfl (WL.val run_assign rfl rfl (WL.nil (W.ret ?_)))))))
  refine bodyQ.r1  results58 rfl ?_
  exact ⟨_, rfl, h⟩
theorem inquiry_ok (h : On W0 L w) : Calls Tryz.prog 62 #[] w (Ret fun v w' => ∃ a, v = .slice a inqB.length inqB.length ∧ On W0 (OwnB (.slice a inqB.length inqB.length) inqB :: L) w') := by
  refine enter func62 rfl ntmps62 rfl ?_
  have hmx := maxLen_eq
  refine W.seq (W.region (WL.val run_assign rfl rfl (WL.nil (W.seq (W.region (WL.eff (eff_make (n := 36) (bytes := 1) h rfl rfl underlying22 rfl rfl rfl rfl rfl (by omega) (by omega)) rfl rfl ?_))))))
  rintro _ w ⟨b3, rfl, h⟩
  have h : On W0 (Own 1 (.slice (some ⟨b3, 0, none⟩) 36 36) 36 (bytesV (List.replicate 36 (0 : UInt8))) :: _) w := h
  refine WL.val run_assign rfl rfl (WL.nil (W.seq (W.region (WL.val run_move rfl rfl (WL.eff (eff_call call58 (laid_ok (ax := some ⟨b3, 0, none⟩) (n := 36) (cx := 36) h)) rfl rfl ?_)))))
  rintro _ w ⟨bx, rfl, h⟩
  refine WL.val run_assign rfl rfl (WL.nil (W.seq (W.region (WL.val run_move rfl rfl (WL.eff (eff_mkSlice (zl := [.int .u8 0, .int .u8 0, .int .u8 0]) (out := [.int .u8 _, .int .u8 _, .int .u8 _]) h underlying22 sizeOf5 zeroValue5 (by decide) (by kernel_rfl) rfl rfl (by simp) (⟨⟨_, _, rfl, rfl, by decide⟩, ⟨⟨_, _, rfl, rfl, by decide⟩, ⟨⟨_, _, rfl, rfl, by decide⟩, trivial⟩⟩⟩) rfl rfl (by simp [maxLen])) rfl rfl ?_)))))
  rintro _ w ⟨b7, rfl, h⟩
  refine WL.eff (eff_call2C (v1 := .int .i64 ((2 : Nat) : Int)) (v2 := .slice (some ⟨b7, 0, none⟩) 3 3) rfl call106 rfl rfl (laid1_ok (bx := bx) (bo := b3) (n := 36) (k := 3) (at_ := 2) (ay := (some ⟨b7, 0, none⟩)) (cy := 3) (xs := (List.replicate 36 (0 : UInt8))) (ys := [5, 2, 31]) (by decide) (by first | rfl | exact be_length ..) (by decide) (by decide) ((h.fetch (Own 1 (.slice (some ⟨b3, 0, none⟩) 36 36) 36 (bytesV (List.replicate 36 (0 : UInt8))))).fetch (blk bx [.slice (some ⟨b3, 0, none⟩) 36 36] 22)) (Gives.ownO (v := .slice (some ⟨b7, 0, none⟩) ([5, 2, 31]).length 3)))) rfl rfl ?_
  rintro _ w h
  refine WL.nil (W.seq (W.region (WL.val run_move rfl rfl ?_)))
  refine WL.eff (eff_mkRow (out := [.int .u8 _, .int .u8 _, .int .u8 _, .int .u8 _, .int .u8 _, .int .u8 _, .int .u8 _, .int .u8 _, .int .u8 _, .int .u8 _, .int .u8 _, .int .u8 _, .int .u8 _, .int .u8 _, .int .u8 _, .int .u8 _, .int .u8 _, .int .u8 _, .int .u8 _, .int .u8 _, .int .u8 _, .int .u8 _, .int .u8 _, .int .u8 _, .int .u8 _, .int .u8 _, .int .u8 _, .int .u8 _]) h underlying22 sizeOf5 zeroValue5 rfl (by decide) rfl rfl rfl) rfl rfl ?_
  rintro _ w ⟨b10, rfl, h⟩
  refine WL.eff (eff_ofString h rfl (by omega) underlying22 underlying5) rfl rfl ?_
  rintro _ w ⟨rfl, h⟩
  refine WL.eff (eff_call2C (v1 := .int .i64 ((8 : Nat) : Int)) (v2 := .slice (some ⟨b10, 0, none⟩) 28 28) rfl call106 rfl rfl (laid1_ok (bx := bx) (bo := b3) (n := 36) (k := 28) (at_ := 8) (ay := (some ⟨b10, 0, none⟩)) (cy := 28) (xs := (over (List.replicate 36 (0 : UInt8)) 2 [5, 2, 31])) (ys := [71, 69, 77, 69, 76, 32, 32, 32, 84, 87, 73, 78, 32, 68, 73, 83, 75, 32, 32, 32, 32, 32, 32, 32, 48, 48, 48, 49]) (by decide) (by first | rfl | exact be_length ..) (by decide) (by decide) ((h.fetch (Own 1 (.slice (some ⟨b3, 0, none⟩) 36 36) 36 (bytesV (over (List.replicate 36 (0 : UInt8)) 2 [5, 2, 31])))).fetch (blk bx [.slice (some ⟨b3, 0, none⟩) 36 36] 22)) (Gives.ownO (v := .slice (some ⟨b10, 0, none⟩) ([71, 69, 77, 69, 76, 32, 32, 32, 84, 87, 73, 78, 32, 68, 73, 83, 75, 32, 32, 32, 32, 32, 32, 32, 48, 48, 48, 49]).length 28)))) rfl rfl ?_
  rintro _ w h
  refine WL.nil (W.seq (W.region (WL.val run_move rfl rfl (WL.val run_assign rfl rfl (WL.nil (W.ret (bodyQ.r1 (v := .slice _ _ _) results62 rfl ?_)))))))
  have h : On W0 (blk bx _ _ :: OwnB (.slice (some ⟨b3, 0, none⟩) inqB.length inqB.length) inqB :: _) w := h
  exact ⟨_, rfl, h.to⟩
theorem senc_ok {s : Int} {k c : Nat} (hk : k < 16) (hc : c < 65536) (h : On W0 L w) : Calls Tryz.prog 29 #[(plain s (k : Int) (c : Int)).val (.slice none 0 0)] w (Ret fun v w' => ∃ a, v = .slice a (senseB k c).length (senseB k c).length ∧ On W0 (OwnB (.slice a (senseB k c).length (senseB k c).length) (senseB k c) :: L) w') := by
  refine enter func29 rfl ntmps29 rfl ?_
  have hmx := maxLen_eq
  refine W.seq (W.region (WL.eff (eff_box (v := .agg _) (l := (plain s (k : Int) (c : Int)).cells (.slice none 0 0)) h rfl rfl) rfl rfl ?_))
  rintro _ w ⟨b1, rfl, h⟩
  have h : On W0 (blk b1 [.int .i64 s, .int .i64 (k : Int), .int .i64 (c : Int), .slice none 0 0, .int .i64 0] 36 :: _) w := h
  refine WL.val run_assign rfl rfl (WL.nil (W.seq (W.region (WL.eff (eff_make (n := 18) (bytes := 1) h rfl rfl underlying22 rfl rfl rfl rfl rfl (by omega) (by omega)) rfl rfl ?_))))
  rintro _ w ⟨b6, rfl, h⟩
  have h : On W0 (Own 1 (.slice (some ⟨b6, 0, none⟩) 18 18) 18 (bytesV (List.replicate 18 (0 : UInt8))) :: _) w := h
  refine WL.val run_assign rfl rfl (WL.nil (W.seq (W.region (WL.val run_move rfl rfl (WL.eff (eff_call call58 (laid_ok (ax := some ⟨b6, 0, none⟩) (n := 18) (cx := 18) h)) rfl rfl ?_)))))
  rintro _ w ⟨bx, rfl, h⟩
  refine WL.val run_assign rfl rfl (WL.nil (W.seq (W.region (WL.val run_assign rfl rfl (WL.nil (W.seq (W.seq ?_)))))))
  refine W.region (WL.val (run_fieldAddr 4 underlying36 rfl sizeOf3 rfl rfl) rfl rfl (WL.val (run_load1 isAgg3 rfl (h.cellB rfl)) rfl rfl (WL.val (run_convInt underlying3 underlying111 rfl) rfl rfl (WL.val (run_neqF rfl rfl (by decide)) rfl rfl (WL.nil (W.condF rfl (W.skip ?_)))))))
  refine W.seq (W.region (WL.val run_move rfl rfl (WL.val run_move rfl rfl (WL.eff (eff_mkSlice (zl := [.int .u8 0]) (out := [.int .u8 _]) h underlying22 sizeOf5 zeroValue5 (by decide) (by kernel_rfl) rfl rfl (by simp) (⟨⟨_, _, rfl, rfl, by decide⟩, trivial⟩) rfl rfl (by simp [maxLen])) rfl rfl ?_))))
  rintro _ w ⟨b17, rfl, h⟩
  refine WL.eff (eff_call2C (v1 := .int .i64 ((0 : Nat) : Int)) (v2 := .slice (some ⟨b17, 0, none⟩) 1 1) rfl call106 rfl rfl (laid1_ok (bx := bx) (bo := b6) (n := 18) (k := 1) (at_ := 0) (ay := (some ⟨b17, 0, none⟩)) (cy := 1) (xs := (List.replicate 18 (0 : UInt8))) (ys := [112]) (by decide) (by first | rfl | exact be_length ..) (by decide) (by decide) ((h.fetch (Own 1 (.slice (some ⟨b6, 0, none⟩) 18 18) 18 (bytesV (List.replicate 18 (0 : UInt8))))).fetch (blk bx [.slice (some ⟨b6, 0, none⟩) 18 18] 22)) (Gives.ownO (v := .slice (some ⟨b17, 0, none⟩) ([112]).length 1)))) rfl rfl ?_
  rintro _ w h
  refine WL.nil (W.seq (W.region (WL.val run_move rfl rfl (WL.val (run_fieldAddr 1 underlying36 rfl sizeOf3 rfl rfl) rfl rfl (WL.val (run_load1 isAgg3 rfl (h.cellB rfl)) rfl rfl (WL.val (run_andN (k := .i64) (m := k) (n := 15) rfl rfl (by show _ ≤ (9223372036854775807 : Int); omega) (by decide)) rfl rfl (WL.val (run_convByte underlying3 underlying5 rfl) rfl rfl ?_)))))))
  refine WL.eff (eff_mkSlice (zl := [.int .u8 0]) (out := [.int .u8 (((UInt8.ofNat (k &&& 15)).toNat : Nat) : Int)]) h underlying22 sizeOf5 zeroValue5 (by decide) (by kernel_rfl) rfl rfl (by simp) (⟨⟨_, _, rfl, rfl, by decide⟩, trivial⟩) rfl rfl (by simp [maxLen])) rfl rfl ?_
  rintro _ w ⟨b24, rfl, h⟩
  rw [show k &&& 15 = k by rw [show (15 : Nat) = 2 ^ 4 - 1 from rfl, Nat.and_two_pow_sub_one_eq_mod]; omega] at h
  have h : On W0 (Own 1 (.slice (some ⟨b24, 0, none⟩) ([UInt8.ofNat k] : List UInt8).length 1) 1 (bytesV [UInt8.ofNat k]) :: _) w := h
  refine WL.eff (eff_call2C (v1 := .int .i64 ((2 : Nat) : Int)) (v2 := .slice (some ⟨b24, 0, none⟩) 1 1) rfl call106 rfl rfl (laid1_ok (bx := bx) (bo := b6) (n := 18) (k := 1) (at_ := 2) (ay := (some ⟨b24, 0, none⟩)) (cy := 1) (xs := (over (List.replicate 18 (0 : UInt8)) 0 [112])) (ys := [UInt8.ofNat k]) (by decide) (by first | rfl | exact be_length ..) (by decide) (by decide) ((h.fetch (Own 1 (.slice (some ⟨b6, 0, none⟩) 18 18) 18 (bytesV (over (List.replicate 18 (0 : UInt8)) 0 [112])))).fetch (blk bx [.slice (some ⟨b6, 0, none⟩) 18 18] 22)) (Gives.ownO (v := .slice (some ⟨b24, 0, none⟩) ([UInt8.ofNat k]).length 1)))) rfl rfl ?_
  rintro _ w h
  refine WL.nil (W.seq (W.region (WL.val run_move rfl rfl (WL.val (run_fieldAddr 4 underlying36 rfl sizeOf3 rfl rfl) rfl rfl (WL.val (run_load1 isAgg3 rfl (h.cellB rfl)) rfl rfl (WL.val (run_convIn underlying3 underlying23 rfl (by decide) (by decide)) rfl rfl (WL.eff (eff_call call59 (bput_ok (ax := none) (cx := 0) (bs := []) (v := 0) (n := 4) h Gives.nilB (by decide) (by decide) (by omega) (by decide))) rfl rfl ?_)))))))
  rintro _ w ⟨a30, rfl, h⟩
  have h : On W0 (OwnB (.slice a30 (be 0 4).length 4) (be 0 4) :: _) w := h
  refine WL.eff (eff_call2C (v1 := .int .i64 ((3 : Nat) : Int)) (v2 := .slice a30 4 4) rfl call106 rfl rfl (laid1_ok (bx := bx) (bo := b6) (n := 18) (k := 4) (at_ := 3) (ay := a30) (cy := 4) (xs := (over (over (List.replicate 18 (0 : UInt8)) 0 [112]) 2 [UInt8.ofNat k])) (ys := (be 0 4)) (by decide) (by first | rfl | exact be_length ..) (by decide) (by decide) ((h.fetch (Own 1 (.slice (some ⟨b6, 0, none⟩) 18 18) 18 (bytesV (over (over (List.replicate 18 (0 : UInt8)) 0 [112]) 2 [UInt8.ofNat k])))).fetch (blk bx [.slice (some ⟨b6, 0, none⟩) 18 18] 22)) (Gives.ownO (v := .slice a30 ((be 0 4)).length 4)))) rfl rfl ?_
  rintro _ w h
  refine WL.nil (W.seq (W.region (WL.val run_move rfl rfl (WL.eff (eff_mkSlice (zl := [.int .u8 0]) (out := [.int .u8 _]) h underlying22 sizeOf5 zeroValue5 (by decide) (by kernel_rfl) rfl rfl (by simp) (⟨⟨_, _, rfl, rfl, by decide⟩, trivial⟩) rfl rfl (by simp [maxLen])) rfl rfl ?_))))
  rintro _ w ⟨b33, rfl, h⟩
  refine WL.eff (eff_call2C (v1 := .int .i64 ((7 : Nat) : Int)) (v2 := .slice (some ⟨b33, 0, none⟩) 1 1) rfl call106 rfl rfl (laid1_ok (bx := bx) (bo := b6) (n := 18) (k := 1) (at_ := 7) (ay := (some ⟨b33, 0, none⟩)) (cy := 1) (xs := (over (over (over (List.replicate 18 (0 : UInt8)) 0 [112]) 2 [UInt8.ofNat k]) 3 (be 0 4))) (ys := [10]) (by decide) (by first | rfl | exact be_length ..) (by decide) (by decide) ((h.fetch (Own 1 (.slice (some ⟨b6, 0, none⟩) 18 18) 18 (bytesV (over (over (over (List.replicate 18 (0 : UInt8)) 0 [112]) 2 [UInt8.ofNat k]) 3 (be 0 4))))).fetch (blk bx [.slice (some ⟨b6, 0, none⟩) 18 18] 22)) (Gives.ownO (v := .slice (some ⟨b33, 0, none⟩) ([10]).length 1)))) rfl rfl ?_
  rintro _ w h
  refine WL.nil (W.seq (W.region (WL.val run_move rfl rfl (WL.val (run_fieldAddr 2 underlying36 rfl sizeOf3 rfl rfl) rfl rfl (WL.val (run_load1 isAgg3 rfl (h.cellB rfl)) rfl rfl (WL.val (run_convIn underlying3 underlying23 rfl (by show (0 : Int) ≤ _; omega) (by show _ ≤ (18446744073709551615 : Int); omega)) rfl rfl (WL.eff (eff_call call59 (bput_ok (ax := none) (cx := 0) (bs := []) (v := c) (n := 2) h Gives.nilB (by decide) (by decide) (by omega) (by decide))) rfl rfl ?_)))))))
  rintro _ w ⟨a39, rfl, h⟩
  have h : On W0 (OwnB (.slice a39 (be c 2).length 2) (be c 2) :: _) w := h
  refine WL.eff (eff_call2C (v1 := .int .i64 ((12 : Nat) : Int)) (v2 := .slice a39 2 2) rfl call106 rfl rfl (laid1_ok (bx := bx) (bo := b6) (n := 18) (k := 2) (at_ := 12) (ay := a39) (cy := 2) (xs := (over (over (over (over (List.replicate 18 (0 : UInt8)) 0 [112]) 2 [UInt8.ofNat k]) 3 (be 0 4)) 7 [10])) (ys := (be c 2)) (by decide) (by first | rfl | exact be_length ..) (by decide) (by decide) ((h.fetch (Own 1 (.slice (some ⟨b6, 0, none⟩) 18 18) 18 (bytesV (over (over (over (over (List.replicate 18 (0 : UInt8)) 0 [112]) 2 [UInt8.ofNat k]) 3 (be 0 4)) 7 [10])))).fetch (blk bx [.slice (some ⟨b6, 0, none⟩) 18 18] 22)) (Gives.ownO (v := .slice a39 ((be c 2)).length 2)))) rfl rfl ?_
  rintro _ w h
  refine WL.nil (W.seq (W.region (WL.val run_move rfl rfl (WL.val run_assign rfl rfl (WL.nil (W.ret (bodyQ.r1 (v := .slice _ _ _) results29 rfl ?_)))))))
  have h : On W0 (blk bx _ _ :: OwnB (.slice (some ⟨b6, 0, none⟩) (senseB k c).length (senseB k c).length) (senseB k c) :: _) w := h
  exact ⟨_, rfl, h.to⟩
theorem capacity_ok {n : Nat} (h1 : 1 ≤ n) (h2 : n ≤ 1024) (h : On W0 L w) : Calls Tryz.prog 63 #[.int .i64 (n : Int)] w (Ret fun v w' => ∃ a, v = .slice a (capB n).length (capB n).length ∧ On W0 (OwnB (.slice a (capB n).length (capB n).length) (capB n) :: L) w') := by
  refine enter func63 rfl ntmps63 rfl (W.seq (W.region (WL.val run_assign rfl rfl (WL.nil (W.seq (W.region (WL.val run_move rfl rfl ?_)))))))
  refine WL.val (run_maxN (m := n) (n := 1) (r := n) rfl rfl (by omega)) rfl rfl (WL.val (run_subN (m := n) (n := 1) rfl rfl (by omega) (by omega)) rfl rfl (WL.val (run_convIn underlying3 underlying23 rfl (by show (0 : Int) ≤ _; omega) (by show _ ≤ (18446744073709551615 : Int); omega)) rfl rfl (WL.eff (eff_call call59 (bput_ok (ax := none) (cx := 0) (bs := []) (v := n - 1) (n := 4) h Gives.nilB (by decide) (by decide) (by omega) (by decide))) rfl rfl ?_)))
  rintro _ w ⟨a7, rfl, h⟩
  refine WL.eff (eff_call call59 (bput_ok (v := 8) (n := 4) (bs := [] ++ be (n - 1) 4) h (Gives.ownO (v := .slice a7 ([] ++ be (n - 1) 4).length ([] ++ be (n - 1) 4).length)) (by decide) (by decide) (by omega) (by rw [List.nil_append, be_length]; decide))) rfl rfl ?_
  rintro _ w ⟨a8, rfl, h⟩
  refine WL.val run_assign rfl rfl (WL.nil (W.ret (bodyQ.r1 (v := .slice _ _ _) results63 rfl ?_)))
  have h2 : On W0 (OwnB (.slice a8 (capB n).length (capB n).length) (capB n) :: _) w := h
  exact ⟨a8, rfl, h2.to⟩
end Go.Proofs.YtjbgiingimhnnaaGreat
/-
  A unit: attentions, commands of blocks: the contracts. Lines of walks printed by a program of the prover's.
-/
namespace Go.Proofs.YtjbgiingimhnnaaGreat
open Go.Proofs.Tryz
open Go Go.Sl Go.Sl.BitM Go.Sl.SpM Go.Sl.RsM Go.Sl.ByM Go.Sl.UnM
set_option linter.unusedVariables false
set_option linter.unusedSimpArgs false
set_option maxHeartbeats 1000000
set_option maxRecDepth 8000
variable {W0 w : World} {L F : List HProp}
theorem sin_ok {b : Nat} {s : Sp} {at_ n : Int} (h : On W0 (SpP 105 b s :: L) w) : Calls Tryz.prog 107 #[.pointer (some ⟨b, 0, none⟩), .int .i64 at_, .int .i64 n] w (Ret fun v w' => ((v = .bool true ∧ inS s at_ n) ∨ (v = .bool false ∧ ¬ inS s at_ n)) ∧ On W0 (SpP 105 b s :: L) w') := by
  have ho := openS h
  obtain ⟨gd, od, cd, am, cm, hw, h⟩ := ho
  exact (in_s hw.2.2.1 h).mono fun e w' he => by
    obtain ⟨v, he, hv⟩ := he
    refine ⟨v, he, ?_⟩
    exact ⟨hv.1, closeS (cd := cd) (cm := cm) (gd := gd) (od := od) (am := am) hw hv.2⟩
theorem tell_ok {bu i : Nat} {u : Un} {pool : PoolL} {ms : List Nat} {x : Int} (hi : i < 8) (hsm : (u.guest i).codes.length ≤ 1000000) (h : On W0 (UnP 68 105 113 bu pool ms u :: L) w) : Calls Tryz.prog 77 #[.pointer (some ⟨bu, 0, none⟩), .int .i64 (i : Int), .int .i64 x] w (Ret fun v w' => On W0 (UnP 68 105 113 bu pool ms (u.tell i x) :: L) w') := by
  refine enter func77 rfl ntmps77 rfl ?_
  have hmx := maxLen_eq
  have ob_ := openU h
  obtain ⟨bs, bt, gs, hm, hl, h⟩ := ob_
  have ob_ := row_of hm hl hi
  obtain ⟨g, hg, hgu⟩ := ob_
  have h := Big.open hg (h.fetch (Big (GOwn pool) gs))
  have ob_ := openG h
  obtain ⟨hok, h⟩ := ob_
  have ob1_ := Own.bounds h
  obtain ⟨hb1, hb2⟩ := ob1_
  have hig : i < gs.length := by have := (List.getElem?_eq_some_iff.1 hg).1; omega
  rw [← hgu] at hsm
  refine W.seq (W.region (WL.val run_move rfl rfl (WL.val run_move rfl rfl (WL.val (run_nilCheck rfl) rfl rfl (WL.val (run_fieldAddr 2 underlying68 rfl sizeOf66 rfl rfl) rfl rfl (WL.val (run_indexAddrArr underlying66 sizeOf65 rfl rfl (by omega) (by omega)) rfl rfl (WL.val run_assign rfl rfl ?_)))))))
  refine WL.nil (W.seq (W.region (WL.val run_move rfl rfl (WL.val (run_nilCheck rfl) rfl rfl (WL.val (run_fieldAddr 0 underlying65 rfl sizeOf62 rfl rfl) rfl rfl (WL.val (run_load1 isAgg62 rfl (h.cellB (ucell (bs := bs) (bt := bt) hg (k := 0) (by decide) rfl))) rfl rfl (WL.val run_move rfl rfl ?_)))))))
  refine WL.eff (eff_call call121 (contains_ints (l := g.s.codes) (ao := g.a) (cap := g.c) (x := x) h (Gives.ownO (v := .slice g.a g.s.codes.length g.c)))) rfl rfl ?_
  rintro _ w ⟨hv, h⟩
  have hcs := Bool.eq_false_or_eq_true (decide (x ∈ g.s.codes))
  rcases hcs with hin | hin <;> (rw [hin] at hv; subst hv)
  ·
   refine WL.val (run_not rfl) rfl rfl (WL.nil (W.condF rfl (W.skip (bodyQ.fall (bodyQ.r0 results77 ?_)))))
   first
     | (have e : u.tell i x = u.putG i ({ g with s := g.s.tell x, a := a26, c := c26 } : GX).s := by unfold Un.tell; rw [← hgu]
        rw [e]
        exact h.to)
     | (have hin' : x ∈ g.s.codes := of_decide_eq_true hin
        have h := Big.close (y := g) hig (closeG (g := g) hok (((h.fetch (Big (GOwn pool) (gs.eraseIdx i))).fetch (MapC g.mb .u64 g.kvs g.ck)).fetch (CodesO g)))
        rw [set_same hg] at h
        have h := closeU (bu := bu) (u := u) hm hl ((((h.fetch (Big (GOwn pool) gs)).fetch (blk bt u.t.cells 113)).fetch (SpP 105 bs u.s)).fetch (blk bu (ucells bs bt gs) 68))
        rw [tell_same hl hi (by rw [← hgu]; exact hin')]
        exact h.to)
  refine WL.val (run_not rfl) rfl rfl (WL.nil (W.condT rfl (W.region (WL.val run_move rfl rfl (WL.val run_move rfl rfl (WL.val (run_nilCheck rfl) rfl rfl (WL.val (run_fieldAddr 0 underlying65 rfl sizeOf62 rfl rfl) rfl rfl ?_)))))))
  refine WL.val (run_load1 isAgg62 rfl (h.cellB (ucell (bs := bs) (bt := bt) hg (k := 0) (by decide) rfl))) rfl rfl (WL.val run_move rfl rfl (WL.eff (eff_mkSlice (zl := [.int .i64 0]) (out := [.int .i64 _]) h underlying62 sizeOf3 zeroValue3 (by decide) (by kernel_rfl) rfl rfl (by simp) (⟨⟨_, _, rfl, rfl, by decide⟩, trivial⟩) rfl rfl (by simp [maxLen])) rfl rfl ?_))
  rintro _ w ⟨b25, rfl, h⟩
  refine WL.eff (eff_app (c2 := 1) (bytes := 8) h rfl rfl (h.cellsO (v := .slice (some ⟨b25, 0, none⟩) 1 1)) underlying62 rfl rfl rfl rfl rfl (by omega) (by omega) (by simp [Value.oneCell'])) rfl rfl ?_
  rintro _ w ⟨a26, c26, rfl, h⟩
  refine WL.val (run_nilCheck rfl) rfl rfl (WL.val (run_fieldAddr 0 underlying65 rfl sizeOf62 rfl rfl) rfl rfl (WL.eff (eff_store (v := .slice a26 (g.s.codes.length + 1) c26) h sizeOf62 rfl rfl rfl (ult (bs := bs) (bt := bt) hg (k := 0) (by decide)) (free0 _)) rfl rfl ?_))
  rintro _ w h
  have hnin : x ∉ g.s.codes := of_decide_eq_false hin
  have ec : (g.s.tell x).codes = g.s.codes ++ [x] := if_neg hnin
  have ec2 : (g.s.tell x).codes.length = g.s.codes.length + 1 := by rw [ec, List.length_append]; rfl
  have ec3 : cV g.s.codes ++ [.int .i64 x] = cV (g.s.tell x).codes := by rw [ec]; simp [cV]
  have er : ({ g with s := g.s.tell x, a := a26, c := c26 } : GX).row = g.row.set 0 (.slice a26 (g.s.codes.length + 1) c26) := by
    show [Value.slice a26 (g.s.tell x).codes.length c26, _, _] = _
    rw [ec2]; rfl
  rw [uset (bs := bs) (bt := bt) hg (k := 0) (by decide) er] at h
  have h : On W0 (Own 1 (.slice a26 (g.s.codes.length + 1) c26) (g.s.codes.length + 1) (cV g.s.codes ++ [.int .i64 x]) :: _) w := h.own (.slice a26 (g.s.codes.length + 1) c26)
  rw [ec3, ← ec2] at h
  have h : On W0 (CodesO ({ g with s := g.s.tell x, a := a26, c := c26 } : GX) :: _) w := h
  have hok' : okD pool ({ g with s := g.s.tell x, a := a26, c := c26 } : GX).s.done ({ g with s := g.s.tell x, a := a26, c := c26 } : GX).kvs := hok
  have h := Big.close (y := ({ g with s := g.s.tell x, a := a26, c := c26 } : GX)) hig (closeG (g := ({ g with s := g.s.tell x, a := a26, c := c26 } : GX)) hok' (((h.fetch (Big (GOwn pool) (gs.eraseIdx i))).fetch (MapC ({ g with s := g.s.tell x, a := a26, c := c26 } : GX).mb .u64 ({ g with s := g.s.tell x, a := a26, c := c26 } : GX).kvs ({ g with s := g.s.tell x, a := a26, c := c26 } : GX).ck)).fetch (CodesO ({ g with s := g.s.tell x, a := a26, c := c26 } : GX))))
  have hm' : (gs.set i ({ g with s := g.s.tell x, a := a26, c := c26 } : GX)).map (·.s) = ((u.putG i ({ g with s := g.s.tell x, a := a26, c := c26 } : GX).s)).g ∧ (gs.set i ({ g with s := g.s.tell x, a := a26, c := c26 } : GX)).map (·.mb) = ms := put_map hm hg rfl
  have h := closeU (bu := bu) (u := (u.putG i ({ g with s := g.s.tell x, a := a26, c := c26 } : GX).s)) hm' (put_len hl) ((((h.fetch (Big (GOwn pool) (gs.set i ({ g with s := g.s.tell x, a := a26, c := c26 } : GX)))).fetch (blk bt u.t.cells 113)).fetch (SpP 105 bs u.s)).fetch (blk bu (ucells bs bt (gs.set i ({ g with s := g.s.tell x, a := a26, c := c26 } : GX))) 68))
  refine WL.nil (bodyQ.fall (bodyQ.r0 results77 ?_))
  first
    | (have e : u.tell i x = u.putG i ({ g with s := g.s.tell x, a := a26, c := c26 } : GX).s := by unfold Un.tell; rw [← hgu]
       rw [e]
       exact h.to)
    | (have hin' : x ∈ g.s.codes := of_decide_eq_true hin
       have h := Big.close (y := g) hig (closeG (g := g) hok (((h.fetch (Big (GOwn pool) (gs.eraseIdx i))).fetch (MapC g.mb .u64 g.kvs g.ck)).fetch (CodesO g)))
       rw [set_same hg] at h
       have h := closeU (bu := bu) (u := u) hm hl ((((h.fetch (Big (GOwn pool) gs)).fetch (blk bt u.t.cells 113)).fetch (SpP 105 bs u.s)).fetch (blk bu (ucells bs bt gs) 68))
       rw [tell_same hl hi (by rw [← hgu]; exact hin')]
       exact h.to)
theorem told_ok {bu i : Nat} {u : Un} {pool : PoolL} {ms : List Nat} (hi : i < 8) (hsm : (u.guest i).codes.length ≤ 1000000) (h : On W0 (UnP 68 105 113 bu pool ms u :: L) w) : Calls Tryz.prog 27 #[.pointer (some ⟨bu, 0, none⟩), .int .i64 (i : Int)] w (Ret fun v w' => (∃ x l, (u.guest i).codes = x :: l ∧ v = .tuple #[(plain 2 6 x).val (.slice none 0 0), .bool true] ∧ On W0 (UnP 68 105 113 bu pool ms (u.putG i (u.guest i).pop) :: L) w') ∨ ((u.guest i).codes = [] ∧ v = .tuple #[(plain 0 0 0).val (.slice none 0 0), .bool false] ∧ On W0 (UnP 68 105 113 bu pool ms u :: L) w')) := by
  refine enter func27 rfl ntmps27 rfl ?_
  have hmx := maxLen_eq
  have ob_ := openU h
  obtain ⟨bs, bt, gs, hm, hl, h⟩ := ob_
  have ob_ := row_of hm hl hi
  obtain ⟨g, hg, hgu⟩ := ob_
  have h := Big.open hg (h.fetch (Big (GOwn pool) gs))
  have ob_ := openG h
  obtain ⟨hok, h⟩ := ob_
  have ob1_ := Own.bounds h
  obtain ⟨hb1, hb2⟩ := ob1_
  have hig : i < gs.length := by have := (List.getElem?_eq_some_iff.1 hg).1; omega
  rw [← hgu] at hsm
  rw [← hgu]
  refine W.seq (W.region (WL.eff (eff_alloc h zeroValue36 rfl) rfl rfl ?_))
  rintro _ w ⟨b4, rfl, h⟩
  refine WL.val run_assign rfl rfl (WL.nil (W.seq (W.region (WL.val run_move rfl rfl (WL.val run_move rfl rfl (WL.val (run_nilCheck rfl) rfl rfl (WL.val (run_fieldAddr 2 underlying68 rfl sizeOf66 rfl rfl) rfl rfl ?_)))))))
  refine WL.val (run_indexAddrArr underlying66 sizeOf65 rfl rfl (by omega) (by omega)) rfl rfl (WL.val run_assign rfl rfl (WL.nil (W.seq (W.seq (W.region (WL.val run_move rfl rfl (WL.val (run_nilCheck rfl) rfl rfl ?_)))))))
  refine WL.val (run_fieldAddr 0 underlying65 rfl sizeOf62 rfl rfl) rfl rfl (WL.val (run_load1 isAgg62 rfl (h.cellB (ucell (bs := bs) (bt := bt) hg (k := 0) (by decide) rfl))) rfl rfl (WL.val (run_lenSlice underlying62 rfl) rfl rfl (WL.val (run_eql rfl rfl) rfl rfl (WL.nil ?_))))
  refine W.condIf rfl (fun c3 => ?_) (fun c3 => ?_)
  ·
   refine W.seq (W.region (WL.val (run_buildS (pl := [(0, 1), (1, 1), (2, 1), (3, 1), (4, 1)]) (out := [.int .i64 _, .int .i64 _, .int .i64 _, .slice _ _ _, .int .i64 _]) underlying36 zeroValue36 (fun w => by kernel_rfl) rfl (trivial) rfl) rfl rfl (WL.eff (eff_storeW (vs := [.int .i64 _, .int .i64 _, .int .i64 _, .slice _ _ _, .int .i64 _]) h sizeOf36 rfl rfl rfl rfl rfl) rfl rfl ?_)))
   rintro _ w h
   refine WL.val run_assign rfl rfl (WL.nil (W.ret (bodyQ.rctB (vs := [.int .i64 _, .int .i64 _, .int .i64 _, .slice _ _ _, .int .i64 _]) (v2 := .bool _) h results27 isAgg36 sizeOf36 rfl rfl rfl rfl ?_)))
   have h := Big.close (y := g) hig (closeG (g := g) hok (((h.fetch (Big (GOwn pool) (gs.eraseIdx i))).fetch (MapC g.mb .u64 g.kvs g.ck)).fetch (CodesO g)))
   rw [set_same hg] at h
   have h := closeU (bu := bu) (u := u) hm hl ((((h.fetch (Big (GOwn pool) gs)).fetch (blk bt u.t.cells 113)).fetch (SpP 105 bs u.s)).fetch (blk bu (ucells bs bt gs) 68))
   exact .inr ⟨List.eq_nil_of_length_eq_zero (by omega), rfl, h.to⟩
  refine W.skip (W.seq ?_)
  have ob_ : ∃ x l, g.s.codes = x :: l := by
    cases hc : g.s.codes with
    | nil => rw [hc] at c3; exact absurd rfl c3
    | cons x l => exact ⟨x, l, rfl⟩
  obtain ⟨x, l, hxl⟩ := ob_
  have hx0 : g.s.codes[0]? = some x := by rw [hxl]; rfl
  have hpos : 0 < g.s.codes.length := by rw [hxl]; exact Nat.succ_pos _
  have ob3_ := Own.addr (h.own (.slice g.a g.s.codes.length g.c)) hpos
  obtain ⟨ba, oa, haa⟩ := ob3_
  have erow : g.row[0]? = some (.slice (some ⟨ba, oa, none⟩) g.s.codes.length g.c) := by rw [← haa]; rfl
  refine W.region (WL.val run_move rfl rfl (WL.val (run_nilCheck rfl) rfl rfl (WL.val (run_fieldAddr 0 underlying65 rfl sizeOf62 rfl rfl) rfl rfl (WL.val (run_load1 isAgg62 rfl (h.cellB (ucell (bs := bs) (bt := bt) hg (k := 0) (by decide) erow))) rfl rfl (WL.val (run_indexAddr underlying62 sizeOf3 rfl rfl (by omega) (by omega)) rfl rfl (WL.val (run_load1 isAgg3 rfl ((by have e0 := h.cellsO (v := .slice g.a g.s.codes.length g.c); rw [haa] at e0; exact Cells.elem e0 (i := 0) (vs := [.int .i64 x]) (by omega) (cV_get hx0) 0 _ rfl))) rfl rfl (WL.eff (eff_call call26 (wrong_ok h)) rfl rfl ?_)))))))
  rintro _ w ⟨rfl, h⟩
  refine WL.eff (eff_alloc h zeroValue36 rfl) rfl rfl ?_
  rintro _ w ⟨b7, rfl, h⟩
  refine WL.eff (eff_storeW (vs := [.int .i64 _, .int .i64 _, .int .i64 _, .slice _ _ _, .int .i64 _]) h sizeOf36 rfl rfl rfl rfl rfl) rfl rfl ?_
  rintro _ w h
  refine WL.nil (W.seq ?_)
  have ob_ := cut_codes (L := [CodesO g]) (k := 1) (l := g.s.codes) (a := g.a) (c := g.c) (Gives.ownO (v := .slice g.a g.s.codes.length g.c)) hpos hb1
  obtain ⟨a', c', hcut, CC⟩ := ob_
  have hd1 : (g.s.codes.drop 1).length ≤ 1000000000000 := by rw [List.length_drop]; omega
  refine W.region (WL.val run_move rfl rfl (WL.val run_move rfl rfl (WL.val (run_nilCheck rfl) rfl rfl (WL.val (run_fieldAddr 0 underlying65 rfl sizeOf62 rfl rfl) rfl rfl (WL.val (run_load1 isAgg62 rfl (h.cellB (ucell (bs := bs) (bt := bt) hg (k := 0) (by decide) rfl))) rfl rfl (WL.val (run_cutLV (l := 1) underlying62 sizeOf3 rfl rfl hpos hcut) rfl rfl (WL.eff (eff_call call41 (clone_ints (l := g.s.codes.drop 1) h (Gives.to CC) hd1)) rfl rfl ?_)))))))
  rintro _ w ⟨a33, c33, rfl, h⟩
  refine WL.val (run_nilCheck rfl) rfl rfl (WL.val (run_fieldAddr 0 underlying65 rfl sizeOf62 rfl rfl) rfl rfl (WL.eff (eff_store (v := .slice a33 (g.s.codes.drop 1).length c33) h sizeOf62 rfl rfl rfl (ult (bs := bs) (bt := bt) hg (k := 0) (by decide)) (free0 _)) rfl rfl ?_))
  rintro _ w h
  have er : ({ g with s := g.s.pop, a := a33, c := c33 } : GX).row = g.row.set 0 (.slice a33 (g.s.codes.drop 1).length c33) := rfl
  rw [uset (bs := bs) (bt := bt) hg (k := 0) (by decide) er] at h
  have h : On W0 (CodesO ({ g with s := g.s.pop, a := a33, c := c33 } : GX) :: _) w := h.own (.slice a33 (g.s.codes.drop 1).length c33)
  have hok' : okD pool ({ g with s := g.s.pop, a := a33, c := c33 } : GX).s.done ({ g with s := g.s.pop, a := a33, c := c33 } : GX).kvs := hok
  have h := Big.close (y := ({ g with s := g.s.pop, a := a33, c := c33 } : GX)) hig (closeG (g := ({ g with s := g.s.pop, a := a33, c := c33 } : GX)) hok' (((h.fetch (Big (GOwn pool) (gs.eraseIdx i))).fetch (MapC ({ g with s := g.s.pop, a := a33, c := c33 } : GX).mb .u64 ({ g with s := g.s.pop, a := a33, c := c33 } : GX).kvs ({ g with s := g.s.pop, a := a33, c := c33 } : GX).ck)).fetch (CodesO ({ g with s := g.s.pop, a := a33, c := c33 } : GX))))
  have hm' : (gs.set i ({ g with s := g.s.pop, a := a33, c := c33 } : GX)).map (·.s) = ((u.putG i g.s.pop)).g ∧ (gs.set i ({ g with s := g.s.pop, a := a33, c := c33 } : GX)).map (·.mb) = ms := put_map hm hg rfl
  have h := closeU (bu := bu) (u := (u.putG i g.s.pop)) hm' (put_len hl) ((((h.fetch (Big (GOwn pool) (gs.set i ({ g with s := g.s.pop, a := a33, c := c33 } : GX)))).fetch (blk bt u.t.cells 113)).fetch (SpP 105 bs u.s)).fetch (blk bu (ucells bs bt (gs.set i ({ g with s := g.s.pop, a := a33, c := c33 } : GX))) 68))
  refine WL.nil (W.seq (W.region (WL.val (run_loadB (vs := [.int .i64 _, .int .i64 _, .int .i64 _, .slice _ _ _, .int .i64 _]) h isAgg36 sizeOf36 rfl rfl rfl) rfl rfl (WL.eff (eff_storeW (vs := [.int .i64 _, .int .i64 _, .int .i64 _, .slice _ _ _, .int .i64 _]) h sizeOf36 rfl rfl rfl rfl rfl) rfl rfl ?_))))
  rintro _ w h
  refine WL.val run_assign rfl rfl (WL.nil (W.ret (bodyQ.rctB (vs := [.int .i64 _, .int .i64 _, .int .i64 _, .slice _ _ _, .int .i64 _]) (v2 := .bool _) h results27 isAgg36 sizeOf36 rfl rfl rfl rfl ?_)))
  exact .inl ⟨x, l, hxl, rfl, h.to⟩
end Go.Proofs.YtjbgiingimhnnaaGreat
