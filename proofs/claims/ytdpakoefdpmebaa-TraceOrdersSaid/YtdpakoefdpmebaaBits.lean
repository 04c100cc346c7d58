/-
  The contracts of maps of bits. Lines of walks printed by a program of the prover's.
-/
import Derived.Test.YtdpakoefdpmebaaChecked
import Derived.Test.YtdpakoefdpmebaaSlB
import Derived.Test.YtdpakoefdpmebaaBitRows
namespace Go.Proofs.Ytdpakoefdpmebaa
open Go Go.Sl Go.Sl.BitM
set_option linter.unusedVariables false
set_option linter.unusedSimpArgs false
set_option maxHeartbeats 4000000
set_option maxRecDepth 8000
theorem Try.follows : Try.prog.follows .mixedOrders = true := by kernel_rfl
variable {W0 w : World} {L F : List HProp}

theorem bnew_ok {n : Int} (h : On W0 L w) : Calls Try.prog 25 #[.int .i64 n] w (Ret fun v w' => ∃ a c, v = .slice a (newB n).length c ∧ On W0 (Own 1 (.slice a (newB n).length c) (newB n).length (bytesV (newB n)) :: L) w') := by
  refine enter Try.func25 rfl Try.ntmps25 rfl ?_
  have hl := maxLen_eq
  refine W.seq ?_
  refine W.region ?_
  refine WL.val run_assign rfl rfl ?_
  refine WL.nil ?_
  refine W.seq ?_
  refine W.seq ?_
  refine W.region ?_
  refine WL.val run_move rfl rfl ?_
  refine WL.dec (run_lss rfl rfl) rfl rfl (fun c4 => ?_) (fun c4 => ?_)
  · skip
    refine WL.val run_move rfl rfl ?_
    refine WL.skip rfl rfl ?_
    refine WL.skip rfl rfl ?_
    refine WL.val (run_pickT rfl) rfl rfl ?_
    refine WL.nil ?_
    refine W.condT rfl ?_
    refine W.seq ?_
    refine W.region ?_
    refine WL.val run_assign rfl rfl ?_
    refine WL.nil ?_
    refine W.ret ?_
    refine bodyQ.r1 (v := .slice _ _ _) Try.results25 rfl ?_
    -- path T
    have e : newB n = [] := by unfold newB; rw [if_pos (by omega)]
    rw [e]
    exact ⟨none, 0, rfl, h.ownEmpty 1 none⟩
  · skip
    refine WL.val run_move rfl rfl ?_
    refine WL.val run_move rfl rfl ?_
    refine WL.val (run_gtr rfl rfl) rfl rfl ?_
    refine WL.val (run_pickF rfl) rfl rfl ?_
    refine WL.nil ?_
    refine W.condIf rfl (fun c2 => ?_) (fun c2 => ?_)
    · skip
      refine W.seq ?_
      refine W.region ?_
      refine WL.val run_assign rfl rfl ?_
      refine WL.nil ?_
      refine W.ret ?_
      refine bodyQ.r1 (v := .slice _ _ _) Try.results25 rfl ?_
      -- path FT
      have e : newB n = [] := by unfold newB; rw [if_pos (by omega)]
      rw [e]
      exact ⟨none, 0, rfl, h.ownEmpty 1 none⟩
    · skip
      refine W.skip ?_
      refine W.seq ?_
      have ob_ := Int.eq_ofNat_of_zero_le (show 0 ≤ n by omega)
      obtain ⟨N, rfl⟩ := ob_
      have e : newB (N : Int) = List.replicate ((N + 7) / 8) 0 := by unfold newB; rw [if_neg (by omega)]; simp
      refine W.region ?_
      refine WL.val run_move rfl rfl ?_
      refine WL.val (run_add rfl rfl (by omega) (by omega)) rfl rfl ?_
      refine WL.val (run_quo rfl rfl (by omega) (by omega) (by omega)) rfl rfl ?_
      refine WL.eff (eff_make (n := (N + 7) / 8) (bytes := 1) h (by show Value.int .i64 (((N : Int) + 7) / 8) = _; rfl) (by show Value.int .i64 (((N : Int) + 7) / 8) = _; rfl) Try.underlying86 rfl rfl rfl rfl rfl (by omega) (by omega)) rfl rfl ?_
      rintro _ w ⟨b12, rfl, h⟩
      refine WL.val run_assign rfl rfl ?_
      refine WL.nil ?_
      refine W.ret ?_
      refine bodyQ.r1 (v := .slice _ _ _) Try.results25 rfl ?_
      -- path FF
      rw [e, List.length_replicate]
      exact ⟨_, _, rfl, by rw [show bytesV (List.replicate ((N + 7) / 8) 0) = List.replicate ((N + 7) / 8) (.int .u8 0) by simp [bytesV, byteV]]; exact h⟩

theorem in_ok {a : Option Addr} {n c : Nat} {i : Int} (h : On W0 L w) (hn : n ≤ 1048576) : Calls Try.prog 75 #[.slice a n c, .int .i64 i] w (Ret fun v w' => ((0 ≤ i ∧ i < 8 * (n : Int) ∧ v = .bool true) ∨ (¬ (0 ≤ i ∧ i < 8 * (n : Int)) ∧ v = .bool false)) ∧ On W0 L w') := by
  refine enter Try.func75 rfl Try.ntmps75 rfl ?_
  refine W.seq ?_
  refine W.region ?_
  refine WL.val run_assign rfl rfl ?_
  refine WL.nil ?_
  refine W.seq ?_
  refine W.region ?_
  refine WL.val run_move rfl rfl ?_
  refine WL.dec (run_geq rfl rfl) rfl rfl (fun c6 => ?_) (fun c6 => ?_)
  · skip
    refine WL.val run_move rfl rfl ?_
    refine WL.val run_move rfl rfl ?_
    refine WL.val run_move rfl rfl ?_
    refine WL.val (run_lenSlice Try.underlying86 rfl) rfl rfl ?_
    refine WL.val (run_mul rfl rfl (by omega) (by omega)) rfl rfl ?_
    refine WL.dec (run_lss rfl rfl) rfl rfl (fun c12 => ?_) (fun c12 => ?_)
    · skip
      refine WL.val (run_pickT rfl) rfl rfl ?_
      refine WL.val run_assign rfl rfl ?_
      refine WL.nil ?_
      refine W.ret ?_
      refine bodyQ.r1 (v := .bool _) Try.results75 rfl ?_
      -- path TT
      exact ⟨.inl ⟨by omega, by omega, rfl⟩, h⟩
    · skip
      refine WL.val (run_pickT rfl) rfl rfl ?_
      refine WL.val run_assign rfl rfl ?_
      refine WL.nil ?_
      refine W.ret ?_
      refine bodyQ.r1 (v := .bool _) Try.results75 rfl ?_
      -- path TF
      exact ⟨.inr ⟨by omega, rfl⟩, h⟩
  · skip
    refine WL.val run_move rfl rfl ?_
    refine WL.skip rfl rfl ?_
    refine WL.skip rfl rfl ?_
    refine WL.skip rfl rfl ?_
    refine WL.skip rfl rfl ?_
    refine WL.skip rfl rfl ?_
    refine WL.val (run_pickF rfl) rfl rfl ?_
    refine WL.val run_assign rfl rfl ?_
    refine WL.nil ?_
    refine W.ret ?_
    refine bodyQ.r1 (v := .bool _) Try.results75 rfl ?_
    -- path F
    exact ⟨.inr ⟨by omega, rfl⟩, h⟩

theorem has_ok {a : Option Addr} {n c : Nat} {m : List UInt8} (h : On W0 L w) (C : Gives L (Cells 1 (.slice a n c) n (bytesV m))) {i : Int} (hn : n ≤ 1048576) : Calls Try.prog 74 #[.slice a n c, .int .i64 i] w (Ret fun v w' => v = .bool (hasI m i) ∧ On W0 L w') := by
  refine enter Try.func74 rfl Try.ntmps74 rfl ?_
  have hml : m.length = n := by have := (h.reads C).1; simpa using this
  refine W.seq ?_
  refine W.region ?_
  refine WL.val run_assign rfl rfl ?_
  refine WL.nil ?_
  refine W.seq ?_
  refine W.region ?_
  refine WL.val run_move rfl rfl ?_
  refine WL.val run_move rfl rfl ?_
  refine WL.eff (eff_call Try.call75 (in_ok h hn)) rfl rfl ?_
  rintro _ w ⟨hv, h⟩
  rcases hv with ⟨hi0, hi1, rfl⟩ | ⟨hno, rfl⟩
  · skip
    refine WL.val run_move rfl rfl ?_
    refine WL.val run_move rfl rfl ?_
    have ob_ := Int.eq_ofNat_of_zero_le hi0
    obtain ⟨k, rfl⟩ := ob_
    have ob_ := (h.reads (Gives.to C)).addr (by omega)
    obtain ⟨bq, oq, hal⟩ := ob_
    subst hal
    have ob_ : ∃ x, m[k / 8]? = some x := ⟨m[k / 8]'(by omega), by simp⟩
    obtain ⟨x, hx⟩ := ob_
    have hx256 := x.toNat_lt
    refine WL.val run_move rfl rfl ?_
    refine WL.val (run_quo rfl rfl (by omega) (by omega) (by omega)) rfl rfl ?_
    refine WL.val (run_indexAddr Try.underlying86 Try.sizeOf5 rfl rfl (by omega) (by omega)) rfl rfl ?_
    refine WL.val (run_load1 Try.isAgg5 rfl ((h.reads (Gives.to C)).elem (i := k / 8) (vs := [.int .u8 x.toNat]) (by omega) (bytes_row hx) 0 _ rfl)) rfl rfl ?_
    refine WL.val run_move rfl rfl ?_
    refine WL.val (run_rem rfl rfl (by omega) (by omega)) rfl rfl ?_
    refine WL.val (run_shrN (j := k % 8) rfl rfl (by show k % 8 ≤ 8; omega)) rfl rfl ?_
    refine WL.val (run_andMod (n := 1) 1 rfl rfl (by show ((x.toNat / 2 ^ (k % 8) : Nat) : Int) ≤ 255; have := Nat.div_le_self x.toNat (2 ^ (k % 8)); omega) (by decide) rfl) rfl rfl ?_
    refine WL.val (run_eql rfl rfl) rfl rfl ?_
    refine WL.val (run_pickT rfl) rfl rfl ?_
    refine WL.val run_assign rfl rfl ?_
    refine WL.nil ?_
    refine W.ret ?_
    refine bodyQ.r1 (v := .bool _) Try.results74 rfl ?_
    -- path T
    refine ⟨?_, h⟩
    rw [hasI_nat, bit_at hx]
    congr 1
    rw [decide_eq_decide]
    show ((x.toNat / 2 ^ (k % 8) % 2 ^ 1 : Nat) : Int) = 1 ↔ _
    omega
  · skip
    refine WL.val run_move rfl rfl ?_
    refine WL.skip rfl rfl ?_
    refine WL.skip rfl rfl ?_
    refine WL.skip rfl rfl ?_
    refine WL.skip rfl rfl ?_
    refine WL.skip rfl rfl ?_
    refine WL.skip rfl rfl ?_
    refine WL.skip rfl rfl ?_
    refine WL.skip rfl rfl ?_
    refine WL.skip rfl rfl ?_
    refine WL.skip rfl rfl ?_
    refine WL.val (run_pickF rfl) rfl rfl ?_
    refine WL.val run_assign rfl rfl ?_
    refine WL.nil ?_
    refine W.ret ?_
    refine bodyQ.r1 (v := .bool _) Try.results74 rfl ?_
    -- path F
    exact ⟨by rw [hasI_out (by rw [hml]; exact hno)], h⟩

theorem turn_ok {a : Option Addr} {n c : Nat} {m : List UInt8} {fr k : Int} {s : Bool} (h : On W0 (Own 1 (.slice a n c) n (bytesV m) :: L) w) (hn : n ≤ 1048576) : Calls Try.prog 73 #[.slice a n c, .int .i64 fr, .int .i64 k, .bool s] w (Ret fun v w' => v = .int .i64 ((turns m fr k s : Nat) : Int) ∧ On W0 (Own 1 (.slice a n c) n (bytesV (turned m fr k s)) :: L) w') := by
  refine enter Try.func73 rfl Try.ntmps73 rfl ?_
  have hml : m.length = n := by have := (Own.openOn h).1; simpa using this
  refine W.seq ?_
  refine W.region ?_
  refine WL.val run_assign rfl rfl ?_
  refine WL.nil ?_
  refine W.seq ?_
  refine W.region ?_
  refine WL.val run_assign rfl rfl ?_
  refine WL.nil ?_
  refine W.seq ?_
  refine W.seq ?_
  refine W.region ?_
  refine WL.val run_move rfl rfl ?_
  refine WL.dec (run_lss rfl rfl) rfl rfl (fun c12 => ?_) (fun c12 => ?_)
  · skip
    refine WL.val run_move rfl rfl ?_
    refine WL.skip rfl rfl ?_
    refine WL.skip rfl rfl ?_
    refine WL.val (run_pickT rfl) rfl rfl ?_
    refine WL.val run_move rfl rfl ?_
    refine WL.skip rfl rfl ?_
    refine WL.skip rfl rfl ?_
    refine WL.skip rfl rfl ?_
    refine WL.skip rfl rfl ?_
    refine WL.skip rfl rfl ?_
    refine WL.val (run_pickT rfl) rfl rfl ?_
    refine WL.nil ?_
    refine W.condT rfl ?_
    refine W.seq ?_
    refine W.region ?_
    refine WL.val run_assign rfl rfl ?_
    refine WL.nil ?_
    refine W.ret ?_
    refine bodyQ.r1 (v := .int .i64 _) Try.results73 rfl ?_
    -- path T
    have e : turnK m fr k = 0 := by unfold turnK; rw [if_pos (by omega)]
    unfold turns turned
    rw [e]
    exact ⟨rfl, h⟩
  · skip
    refine WL.val run_move rfl rfl ?_
    refine WL.val run_move rfl rfl ?_
    refine WL.dec (run_lss rfl rfl) rfl rfl (fun c15 => ?_) (fun c15 => ?_)
    · skip
      refine WL.val (run_pickF rfl) rfl rfl ?_
      refine WL.val run_move rfl rfl ?_
      refine WL.skip rfl rfl ?_
      refine WL.skip rfl rfl ?_
      refine WL.skip rfl rfl ?_
      refine WL.skip rfl rfl ?_
      refine WL.skip rfl rfl ?_
      refine WL.val (run_pickT rfl) rfl rfl ?_
      refine WL.nil ?_
      refine W.condT rfl ?_
      refine W.seq ?_
      refine W.region ?_
      refine WL.val run_assign rfl rfl ?_
      refine WL.nil ?_
      refine W.ret ?_
      refine bodyQ.r1 (v := .int .i64 _) Try.results73 rfl ?_
      -- path FT
      have e : turnK m fr k = 0 := by unfold turnK; rw [if_pos (by omega)]
      unfold turns turned
      rw [e]
      exact ⟨rfl, h⟩
    · skip
      refine WL.val (run_pickF rfl) rfl rfl ?_
      refine WL.val run_move rfl rfl ?_
      refine WL.val run_move rfl rfl ?_
      refine WL.val run_move rfl rfl ?_
      refine WL.val (run_lenSlice Try.underlying86 rfl) rfl rfl ?_
      refine WL.val (run_mul rfl rfl (by omega) (by omega)) rfl rfl ?_
      refine WL.val (run_geq rfl rfl) rfl rfl ?_
      refine WL.val (run_pickF rfl) rfl rfl ?_
      refine WL.nil ?_
      refine W.condIf rfl (fun c3 => ?_) (fun c3 => ?_)
      · skip
        refine W.seq ?_
        refine W.region ?_
        refine WL.val run_assign rfl rfl ?_
        refine WL.nil ?_
        refine W.ret ?_
        refine bodyQ.r1 (v := .int .i64 _) Try.results73 rfl ?_
        -- path FFT
        have e : turnK m fr k = 0 := by unfold turnK; rw [if_pos (by omega)]
        unfold turns turned
        rw [e]
        exact ⟨rfl, h⟩
      · skip
        refine W.skip ?_
        refine W.seq ?_
        refine W.seq ?_
        have ob_ := Int.eq_ofNat_of_zero_le (show 0 ≤ fr by omega)
        obtain ⟨lo, rfl⟩ := ob_
        have ob_ := Int.eq_ofNat_of_zero_le (show 0 ≤ k by omega)
        obtain ⟨N, rfl⟩ := ob_
        have hK : turnK m (lo : Int) (N : Int) = min N (8 * n - lo) := by unfold turnK; rw [if_neg (by omega), hml]; simp
        refine W.region ?_
        refine WL.val run_move rfl rfl ?_
        refine WL.val run_assign rfl rfl ?_
        refine WL.nil ?_
        refine W.block ?_
        refine W.loop (fun (q : Nat) env w => ∃ j, env = mkE j [(0, .slice a n c), (1, .int .i64 (lo : Int)), (2, .int .i64 (N : Int)), (3, .bool s), (9, .int .i64 (((turnN m lo s q).2 : Nat) : Int)), (10, .int .i64 ((lo + q : Nat) : Int))] ∧ q ≤ min N (8 * n - lo) ∧ On W0 (Own 1 (.slice a n c) n (bytesV (turnN m lo s q).1) :: L) w) (fun q => min N (8 * n - lo) - q) (0) ?_ ?_
        · exact ⟨_, mkE_of ⟨rfl, rfl, rfl, rfl, rfl, rfl, trivial⟩, Nat.zero_le _, h⟩
        · rintro q env w ⟨j, rfl, hq, h⟩
          have hle := turnN_le m lo s q
          have hlq := turnN_length m lo s q
          refine W.seq ?_
          refine W.seq ?_
          refine W.region ?_
          refine WL.val run_move rfl rfl ?_
          refine WL.val run_move rfl rfl ?_
          refine WL.val run_move rfl rfl ?_
          refine WL.val run_move rfl rfl ?_
          refine WL.val (run_lenSlice Try.underlying86 rfl) rfl rfl ?_
          refine WL.val (run_mul rfl rfl (by omega) (by omega)) rfl rfl ?_
          refine WL.val run_move rfl rfl ?_
          refine WL.val (run_sub rfl rfl (by omega) (by omega)) rfl rfl ?_
          refine WL.val (run_minI rfl rfl) rfl rfl ?_
          refine WL.val (run_add rfl rfl (by omega) (by omega)) rfl rfl ?_
          refine WL.val (run_lss rfl rfl) rfl rfl ?_
          refine WL.nil ?_
          refine W.condIf rfl (fun c11 => ?_) (fun c11 => ?_)
          · skip
            refine W.skip ?_
            refine W.seq ?_
            refine W.block ?_
            refine W.seq ?_
            refine W.region ?_
            refine WL.val run_move rfl rfl ?_
            refine WL.val run_move rfl rfl ?_
            refine WL.eff (eff_call Try.call74 (has_ok h (Gives.ownO (v := .slice a n c)) hn)) rfl rfl ?_
            rintro _ w ⟨hv, h⟩
            rw [hasI_nat] at hv
            subst hv
            refine WL.val run_move rfl rfl ?_
            refine WL.val (run_neqBool Try.underlying4 rfl rfl) rfl rfl ?_
            refine WL.nil ?_
            refine W.condB rfl (fun c16 => ?_) (fun c16 => ?_)
            · skip
              refine W.seq ?_
              have ob_ := Own.addr h (by omega)
              obtain ⟨bq, oq, hal⟩ := ob_
              subst hal
              have ob_ : ∃ x, (turnN m lo s q).1[(lo + q) / 8]? = some x := ⟨(turnN m lo s q).1[(lo + q) / 8]'(by omega), by simp⟩
              obtain ⟨x, hx⟩ := ob_
              have hx256 := x.toNat_lt
              have hp2 : 1 * 2 ^ ((lo + q) % 8) ≤ 255 := by have := Nat.pow_le_pow_right (n := 2) (by omega) (show (lo + q) % 8 ≤ 7 by omega); omega
              have hxr := xor_lt x (show (lo + q) % 8 < 8 by omega)
              rw [← Nat.one_mul (2 ^ ((lo + q) % 8))] at hxr
              refine W.draw Try.follows h (fun w h => ?_)
              refine WT.pure 0 rfl (by kernel_rfl) (fun w' => run_move) rfl rfl ?_
              refine WT.pure 1 rfl (by kernel_rfl) (fun w' => run_move) rfl rfl ?_
              refine WT.pure 2 rfl (by kernel_rfl) (fun w' => (run_quo rfl rfl (by omega) (by omega) (by omega))) rfl rfl ?_
              refine WT.pure 3 rfl (by kernel_rfl) (fun w' => (run_indexAddr Try.underlying86 Try.sizeOf5 rfl rfl (by omega) (by omega))) rfl rfl ?_
              refine WT.load1 4 rfl (by kernel_rfl) Try.isAgg5 rfl ((h.cellsO (v := .slice (some ⟨bq, oq, none⟩) n c)).elem (i := (lo + q) / 8) (vs := [.int .u8 x.toNat]) (by omega) (bytes_row hx) 0 _ rfl) rfl rfl ?_
              refine WT.pure 5 rfl (by kernel_rfl) (fun w' => run_move) rfl rfl ?_
              refine WT.pure 6 rfl (by kernel_rfl) (fun w' => (run_rem rfl rfl (by omega) (by omega))) rfl rfl ?_
              refine WT.pure 7 rfl (by kernel_rfl) (fun w' => (run_shlN (m := 1) (j := (lo + q) % 8) rfl rfl (by show (lo + q) % 8 ≤ 8; omega) (by show _ ≤ (255 : Int); omega))) rfl rfl ?_
              refine WT.pure 8 rfl (by kernel_rfl) (fun w' => (run_xorN rfl rfl (by show _ ≤ (255 : Int); omega) (by show _ ≤ (255 : Int); omega) (by show _ ≤ (255 : Int); omega))) rfl rfl ?_
              refine WT.pure 9 rfl (by kernel_rfl) (fun w' => (run_indexAddr Try.underlying86 Try.sizeOf5 rfl rfl (by omega) (by omega))) rfl rfl ?_
              refine WT.eff 10 [false] rfl (by kernel_rfl) (by kernel_rfl) (eff_storeOwn (k := (lo + q) / 8 * 1) (v := .int .u8 _) h Try.sizeOf5 rfl rfl rfl (by omega)) rfl rfl ?_
              rintro _ w h
              rw [Nat.mul_one, bytesV_flip hx] at h
              refine ⟨trivial, ?_⟩
              refine WT.done (by kernel_rfl) ?_
              refine W.region ?_
              refine WL.val run_move rfl rfl ?_
              refine WL.val (run_incN rfl rfl (by omega)) rfl rfl ?_
              refine WL.val run_assign rfl rfl ?_
              refine WL.nil ?_
              refine W.region ?_
              refine WL.val run_move rfl rfl ?_
              refine WL.val (run_add rfl rfl (by omega) (by omega)) rfl rfl ?_
              refine WL.val run_assign rfl rfl ?_
              refine WL.nil ?_
              -- round, path FFFLTT
              have e : turnN m lo s (q + 1) = (flip (turnN m lo s q).1 (lo + q), (turnN m lo s q).2 + 1) := by conv => { lhs; unfold turnN }; rw [if_neg (by intro hh; rw [hh] at c16; simp at c16)]
              exact ⟨q + 1, ⟨_, mkE_of ⟨rfl, rfl, rfl, rfl, (by rw [e]; rfl), rfl, trivial⟩, by omega, (by rw [e]; exact h)⟩, by show min N (8 * n - lo) - (q + 1) < min N (8 * n - lo) - q; omega⟩
            · skip
              refine W.skip ?_
              refine W.region ?_
              refine WL.val run_move rfl rfl ?_
              refine WL.val (run_add rfl rfl (by omega) (by omega)) rfl rfl ?_
              refine WL.val run_assign rfl rfl ?_
              refine WL.nil ?_
              -- round, path FFFLTF
              have e : turnN m lo s (q + 1) = turnN m lo s q := by conv => { lhs; unfold turnN }; rw [if_pos (by simpa using c16)]
              exact ⟨q + 1, ⟨_, mkE_of ⟨rfl, rfl, rfl, rfl, (by rw [e]; rfl), rfl, trivial⟩, by omega, (by rw [e]; exact h)⟩, by show min N (8 * n - lo) - (q + 1) < min N (8 * n - lo) - q; omega⟩
          · skip
            refine W.exit ?_
            refine W.seq ?_
            refine W.region ?_
            refine WL.val run_move rfl rfl ?_
            refine WL.val run_assign rfl rfl ?_
            refine WL.nil ?_
            refine W.ret ?_
            refine bodyQ.r1 (v := .int .i64 _) Try.results73 rfl ?_
            -- path FFFLF
            have ob_ : q = min N (8 * n - lo) := by omega
            obtain rfl := ob_
            unfold turns turned
            rw [hK]
            exact ⟨rfl, h⟩

theorem bset_ok {a : Option Addr} {n c : Nat} {m : List UInt8} {fr k : Int} (h : On W0 (Own 1 (.slice a n c) n (bytesV m) :: L) w) (hn : n ≤ 1048576) : Calls Try.prog 69 #[.slice a n c, .int .i64 fr, .int .i64 k] w (Ret fun v w' => v = .int .i64 ((turns m fr k true : Nat) : Int) ∧ On W0 (Own 1 (.slice a n c) n (bytesV (turned m fr k true)) :: L) w') := by
  refine enter Try.func69 rfl Try.ntmps69 rfl ?_
  refine W.seq ?_
  refine W.region ?_
  refine WL.val run_assign rfl rfl ?_
  refine WL.nil ?_
  refine W.seq ?_
  refine W.region ?_
  refine WL.val run_move rfl rfl ?_
  refine WL.val run_move rfl rfl ?_
  refine WL.val run_move rfl rfl ?_
  refine WL.eff (eff_call Try.call73 (turn_ok h hn)) rfl rfl ?_
  rintro _ w ⟨rfl, h⟩
  refine WL.val run_assign rfl rfl ?_
  refine WL.nil ?_
  refine W.ret ?_
  refine bodyQ.r1 (v := .int .i64 _) Try.results69 rfl ?_
  -- path 
  exact ⟨rfl, h⟩

theorem bunset_ok {a : Option Addr} {n c : Nat} {m : List UInt8} {fr k : Int} (h : On W0 (Own 1 (.slice a n c) n (bytesV m) :: L) w) (hn : n ≤ 1048576) : Calls Try.prog 70 #[.slice a n c, .int .i64 fr, .int .i64 k] w (Ret fun v w' => v = .int .i64 ((turns m fr k false : Nat) : Int) ∧ On W0 (Own 1 (.slice a n c) n (bytesV (turned m fr k false)) :: L) w') := by
  refine enter Try.func70 rfl Try.ntmps70 rfl ?_
  refine W.seq ?_
  refine W.region ?_
  refine WL.val run_assign rfl rfl ?_
  refine WL.nil ?_
  refine W.seq ?_
  refine W.region ?_
  refine WL.val run_move rfl rfl ?_
  refine WL.val run_move rfl rfl ?_
  refine WL.val run_move rfl rfl ?_
  refine WL.eff (eff_call Try.call73 (turn_ok h hn)) rfl rfl ?_
  rintro _ w ⟨rfl, h⟩
  refine WL.val run_assign rfl rfl ?_
  refine WL.nil ?_
  refine W.ret ?_
  refine bodyQ.r1 (v := .int .i64 _) Try.results70 rfl ?_
  -- path 
  exact ⟨rfl, h⟩

end Go.Proofs.Ytdpakoefdpmebaa
