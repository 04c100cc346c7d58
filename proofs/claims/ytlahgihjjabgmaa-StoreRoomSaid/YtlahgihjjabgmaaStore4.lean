/-
  The laws of a store: what they share. Lines of walks printed by a program of the prover's.
-/
import Derived.Test.YtlahgihjjabgmaaStore3
import Derived.Test.YtlahgihjjabgmaaRingV
namespace Go.Proofs.Ytlahgihjjabgmaa
open Go Go.Sl Go.Sl.ByM Go.Sl.DkM Go.Sl.TwM Go.Sl.RgM Go.Sl.StM
set_option linter.unusedVariables false
set_option linter.unusedSimpArgs false
set_option maxHeartbeats 1000000
set_option maxRecDepth 8000
variable {W0 w : World} {L F : List HProp}

theorem sfirst {b : Nat} {d : Dk} (hl : Live d) (hn : d.n = 354) (T : TwI d 0 1 (headB (⟨0, 1, 0, 0, 0, 4294967296, 0⟩ : Hd))) (hbl : ∀ k : Nat, 2 ≤ k → readD d ((k : Nat) : Int) = List.replicate 512 0) (hlow : d.calls ≤ 1000) (h : On W0 (DiskP 106 110 b d :: L) w) : Calls Try.prog 56 #[.pointer (some ⟨b, 0, none⟩)] w (Ret fun v w' => ∃ bs bt br d', v = .tuple #[.pointer (some ⟨bs, 0, none⟩), .int .i64 0] ∧ SI d' hd1 2 [] [] (g0R 98 256 4294967296 0 2) ∧ d'.calls = d.calls + 2 ∧ On W0 (StoreP 150 bs b bt br hd1 [] [] :: TwinP 126 bt b 0 2 (headB hd1) :: RingP 130 br b (g0R 98 256 4294967296 0 2) :: DiskP 106 110 b d' :: L) w') := (sopen_ok (hd := (⟨0, 1, 0, 0, 0, 4294967296, 0⟩ : Hd)) (snap := []) (es := []) (lvj := 2) T ⟨by decide, by decide, by decide, by decide, by decide, by decide, by decide⟩ (by decide) rfl (fun i hi => by cases hi) (JI.blank fun q hq => hbl _ (by omega)) (by decide) (fun j e he => by cases he) hn (by decide) (by decide) (by decide) (by decide) (by omega) h).mono fun e w' he => by
  obtain ⟨v, he, hv⟩ := he
  refine ⟨v, he, ?_⟩
  obtain ⟨bs, bt, br, hv, h⟩ := hv
  have hs1 := SI.first hl hn (h := (⟨0, 1, 0, 0, 0, 4294967296, 0⟩ : Hd)) ⟨by decide, by decide, by decide, by decide, by decide, by decide, by decide⟩ (by decide) rfl rfl T (by decide) hbl rfl
  obtain ⟨S1, c1⟩ := hs1
  exact ⟨bs, bt, br, _, hv, S1, c1, h⟩

theorem sapp {bs b bt br tn i : Nat} {d : Dk} {hd : Hd} {snap : List UInt8} {es : List En} {g : Rg} {idx ep : Nat} {bb : List UInt8} {ax : Option Addr} {cx : Nat} (S : SI d hd tn snap es g) (hi : idx = hd.base + 1 + es.length) (hp : ep < 18446744073709551616) (hd2 : bb.length ≤ 944) (hu : usedB (es.map enB) ≤ 2 * i) (hi2 : i ≤ 100) (hbb : hd.base + es.length < 4000000000000000000) (hfi : hd.first + es.length < 4500000000000000000) (hlow : d.calls ≤ 1000000000) (h : On W0 (StoreP 150 bs b bt br hd snap es :: RingP 130 br b g :: DiskP 106 110 b d :: L) w) (C : Gives L (Bytes (.slice ax bb.length cx) bb)) : Calls Try.prog 57 #[.pointer (some ⟨bs, 0, none⟩), .agg #[.int .u64 (idx : Int), .int .u64 (ep : Int), .slice ax bb.length cx]] w (Ret fun v w' => v = .int .i64 0 ∧ ∃ d', SI d' hd tn snap (es ++ [⟨idx, ep, bb⟩]) (keepR g (enB ⟨idx, ep, bb⟩)) ∧ usedB ((es ++ [(⟨idx, ep, bb⟩ : En)]).map enB) ≤ 2 * (i + 1) ∧ d'.calls ≤ d.calls + 6 ∧ On W0 (StoreP 150 bs b bt br hd snap (es ++ [⟨idx, ep, bb⟩]) :: RingP 130 br b (keepR g (enB ⟨idx, ep, bb⟩)) :: DiskP 106 110 b d' :: L) w') := by
  have hub := used_app2 (e := ⟨idx, ep, bb⟩) hu hd2
  obtain ⟨u1, u2⟩ := hub
  exact (sappend_ok (e := ⟨idx, ep, bb⟩) S hi hp (by show bb.length ≤ 2048; omega) (by omega) hbb hfi hlow h C).mono fun e w' he => by
    obtain ⟨v, he, hv⟩ := he
    refine ⟨v, he, ?_⟩
    obtain ⟨hv, h⟩ := hv
    have hip : idx < 256 ^ 8 := by show idx < 18446744073709551616; omega
    have S2 := S.app (e := ⟨idx, ep, bb⟩) hi hip hp (by show bb.length ≤ 2048; omega) (by omega) (by show _ < 18446744073709551616; omega) rfl
    have hla := app_live (at_ := 98) (n := 256) (place := g.place) (number := g.next) (life := 2) (b := enB ⟨idx, ep, bb⟩) S.live (show 0 < 256 by decide) (by rw [S.n]; decide) (needR (enB ⟨idx, ep, bb⟩).length)
    obtain ⟨l1, n1, c1⟩ := hla
    have hnb := needR_bound (n := (enB ⟨idx, ep, bb⟩).length) (m := 2) (by rw [enB_length]; show 16 + bb.length ≤ 2 * 480; omega) (by decide)
    refine ⟨hv, _, S2, u2, ?_, h⟩
    rw [(live_flush l1).1]
    show (appD _ _ _ _ _ _ _ _).calls + 1 ≤ _
    rw [c1]; omega

theorem scomp {bs b bt br tn k idx : Nat} {d : Dk} {hd : Hd} {snap sn : List UInt8} {es : List En} {g : Rg} {ax : Option Addr} {cx : Nat} (hidx : hd.base + k = idx) (S : SI d hd tn snap es g) (hk : k ≤ es.length) (hsn : sn.length ≤ 24576) (hbb : hd.base + es.length < 4000000000000000000) (hfi : hd.first + es.length < 4500000000000000000) (htn : tn + 1 < 256 ^ 8) (hlow : d.calls ≤ 900000000) (h : On W0 (StoreP 150 bs b bt br hd snap es :: TwinP 126 bt b 0 tn (headB hd) :: RingP 130 br b g :: DiskP 106 110 b d :: L) w) (C : Gives L (Bytes (.slice ax sn.length cx) sn)) : Calls Try.prog 59 #[.pointer (some ⟨bs, 0, none⟩), .int .u64 (idx : Int), .slice ax sn.length cx] w (Ret fun v w' => v = .int .i64 0 ∧ ∃ d', SI d' (headC hd k sn es) (tn + 1) sn (es.drop k) (trimN g k) ∧ d'.calls ≤ d.calls + 60 ∧ On W0 (StoreP 150 bs b bt br (headC hd k sn es) sn (es.drop k) :: TwinP 126 bt b 0 (tn + 1) (headB (headC hd k sn es)) :: RingP 130 br b (trimN g k) :: DiskP 106 110 b d' :: L) w') := by
  subst hidx
  exact (scompact_ok S hk hsn hbb hfi htn hlow h C).mono fun e w' he => by
    obtain ⟨v, he, hv⟩ := he
    refine ⟨v, he, ?_⟩
    obtain ⟨hv, h⟩ := hv
    have hok := S.hok
    obtain ⟨ok1, ok2, ok3, ok4, ok5, ok6, ok7⟩ := hok
    have hSC := S.compact (sn := sn) k hk hsn (by omega) (by omega) htn (secN_le hsn) (secN_ge _) rfl
    obtain ⟨SC, hcC⟩ := hSC
    have := secN_le hsn
    exact ⟨hv, _, SC, by rw [hcC]; omega, h⟩

theorem sreopen {b tn : Nat} {d : Dk} {hd : Hd} {snap : List UInt8} {es : List En} {g : Rg} (S : SI d hd tn snap es g) (hl2 : hd.life = 2) (hbb : hd.base + es.length < 4000000000000000000) (hfi : hd.first ≤ 4000000000000000000) (htn : tn + 1 < 256 ^ 8) (hlow : d.calls ≤ 1000000000) (h : On W0 (DiskP 106 110 b d :: L) w) : Calls Try.prog 56 #[.pointer (some ⟨b, 0, none⟩)] w (Ret fun v w' => ∃ bs bt br, v = .tuple #[.pointer (some ⟨bs, 0, none⟩), .int .i64 0] ∧ On W0 (StoreP 150 bs b bt br { hd with life := hd.life + 1 } snap es :: L) w') := (sopen_ok (lvj := 2) S.tw S.hok S.place S.size S.on S.ji (by omega) S.ens S.n hfi (by omega) (by omega) htn hlow h).mono fun e w' he => by
  obtain ⟨v, he, hv⟩ := he
  refine ⟨v, he, ?_⟩
  obtain ⟨bs, bt, br, hv, h⟩ := hv
  exact ⟨bs, bt, br, hv, h.to⟩

theorem least_ok (h : On W0 L w) : Calls Try.prog 54 #[] w (Ret fun v w' => v = .int .i64 354 ∧ On W0 L w') := by
  refine enter Try.func54 rfl Try.ntmps54 rfl ?_
  refine W.seq ?_
  refine W.region ?_
  refine WL.val run_assign rfl rfl ?_
  refine WL.nil ?_
  refine W.seq ?_
  refine W.region ?_
  refine WL.val run_assign rfl rfl ?_
  refine WL.nil ?_
  refine W.ret ?_
  refine bodyQ.r1 (v := .int .i64 _) Try.results54 rfl ?_
  -- path 
  exact ⟨rfl, h⟩

theorem sbytes_ok {n k : Nat} (hn : n ≤ 24576) (hk : k ≤ 100) (h : On W0 L w) : Calls Try.prog 58 #[.int .i64 (n : Int), .int .i64 (k : Int)] w (Ret fun v w' => ∃ a, v = .slice a (byS n k).length (byS n k).length ∧ On W0 (OwnB (.slice a (byS n k).length (byS n k).length) (byS n k) :: L) w') := by
  refine enter Try.func58 rfl Try.ntmps58 rfl ?_
  have hmx := maxLen_eq
  refine W.seq ?_
  refine W.region ?_
  refine WL.val run_assign rfl rfl ?_
  refine WL.nil ?_
  refine W.seq ?_
  refine W.region ?_
  refine WL.val run_move rfl rfl ?_
  refine WL.eff (eff_make (n := n) (bytes := 1) h (rfl) (rfl) Try.underlying22 rfl rfl rfl rfl rfl (by omega) (by omega)) rfl rfl ?_
  rintro _ w ⟨b8, rfl, h⟩
  refine WL.val run_assign rfl rfl ?_
  refine WL.nil ?_
  refine W.seq ?_
  refine W.seq ?_
  refine W.region ?_
  refine WL.val run_assign rfl rfl ?_
  refine WL.nil ?_
  rw [← zerosB] at h
  refine W.block ?_
  refine W.loop (fun (i : Nat) env w => i ≤ n ∧ ∃ (j : Env), env = mkE j [(0, .int .i64 (n : Int)), (1, .int .i64 (k : Int)), (5, .slice (some ⟨b8, 0, none⟩) n n), (6, .int .i64 (i : Nat))] ∧ On W0 (Own 1 (.slice (some ⟨b8, 0, none⟩) n n) n (bytesV (byS i k ++ List.replicate (n - i) 0)) :: L) w) (fun i => n - i) (0) ?_ ?_
  · exact ⟨Nat.zero_le _, _, mkE_of ⟨rfl, rfl, rfl, rfl, trivial⟩, h⟩
  · rintro i env w ⟨hi, j, rfl, h⟩
    refine W.seq ?_
    refine W.seq ?_
    refine W.region ?_
    refine WL.val run_move rfl rfl ?_
    refine WL.val run_move rfl rfl ?_
    refine WL.val (run_lss rfl rfl) rfl rfl ?_
    refine WL.nil ?_
    refine W.condIf rfl (fun c6 => ?_) (fun c6 => ?_)
    · skip
      refine W.skip ?_
      refine W.seq ?_
      refine W.block ?_
      refine W.region ?_
      refine WL.val run_move rfl rfl ?_
      refine WL.val run_move rfl rfl ?_
      refine WL.val run_move rfl rfl ?_
      refine WL.val run_move rfl rfl ?_
      refine WL.val (run_mulN (m := 3) (n := i) rfl rfl (by omega)) rfl rfl ?_
      refine WL.val (run_addN (m := k) (n := 3 * i) rfl rfl (by omega)) rfl rfl ?_
      refine WL.val (run_convByte (n := k + 3 * i) Try.underlying3 Try.underlying5 rfl) rfl rfl ?_
      refine WL.val (run_indexAddr Try.underlying22 Try.sizeOf5 rfl rfl (by omega) (by omega)) rfl rfl ?_
      refine WL.eff (eff_storeOwn (size := 1) (k := i * 1) (v := .int .u8 ((UInt8.ofNat (k + 3 * i)).toNat : Int)) h Try.sizeOf5 rfl rfl rfl (by omega)) rfl rfl ?_
      rintro _ w h
      rw [Nat.mul_one] at h
      refine WL.nil ?_
      refine W.region ?_
      refine WL.val run_move rfl rfl ?_
      refine WL.val (run_incN rfl rfl (by omega)) rfl rfl ?_
      refine WL.val run_assign rfl rfl ?_
      refine WL.nil ?_
      -- round, path LT
      rw [bytes_set, byS_step (by omega)] at h
      exact ⟨i + 1, ⟨by omega, _, mkE_of ⟨rfl, rfl, rfl, rfl, trivial⟩, h⟩, by show n - (i + 1) < n - i; omega⟩
    · skip
      refine W.exit ?_
      refine W.seq ?_
      refine W.region ?_
      refine WL.val run_move rfl rfl ?_
      refine WL.val run_assign rfl rfl ?_
      refine WL.nil ?_
      refine W.ret ?_
      refine bodyQ.r1 (v := .slice _ _ _) Try.results58 rfl ?_
      -- path LF
      have ob_ : i = n := by omega
      obtain rfl := ob_
      rw [Nat.sub_self, List.replicate_zero, List.append_nil] at h
      have h2 : On W0 (Own 1 (.slice (some ⟨b8, 0, none⟩) (byS i k).length (byS i k).length) (byS i k).length (bytesV (byS i k)) :: L) w := by rw [byS_length]; exact h
      exact ⟨some ⟨b8, 0, none⟩, by rw [byS_length], h2⟩

theorem sknown_ok (h : On W0 F w) : Calls Try.prog 53 #[] w (Ret fun v w' => v = .bool true ∧ On W0 F w') := by
  refine enter Try.func53 rfl Try.ntmps53 rfl ?_
  refine W.seq ?_
  refine W.region ?_
  refine WL.val run_assign rfl rfl ?_
  refine WL.nil ?_
  refine W.seq ?_
  refine W.region ?_
  refine WL.eff (eff_call Try.call54 (least_ok h)) rfl rfl ?_
  rintro _ w ⟨rfl, h⟩
  refine WL.eff (eff_call Try.call16 (new_ok h)) rfl rfl ?_
  rintro _ w hv
  rcases hv with ⟨_, _, b, rfl, h⟩ | ⟨hno, _, _⟩
  rotate_left
  · exact absurd ⟨by decide, by decide⟩ hno
  refine WL.val run_move rfl rfl ?_
  refine WL.val (run_extract rfl rfl) rfl rfl ?_
  refine WL.val (run_extract rfl rfl) rfl rfl ?_
  refine WL.val run_assign rfl rfl ?_
  refine WL.val run_assign rfl rfl ?_
  refine WL.nil ?_
  refine W.seq ?_
  refine W.seq ?_
  refine W.region ?_
  refine WL.val run_move rfl rfl ?_
  refine WL.val (run_eqlPtrNil Try.underlying26 rfl rfl) rfl rfl ?_
  refine WL.nil ?_
  refine W.condF rfl ?_
  refine W.skip ?_
  refine W.seq ?_
  refine W.region ?_
  refine WL.val run_move rfl rfl ?_
  refine WL.eff (eff_call Try.call55 (sformat_ok (d := newD 354) (fun k => rfl) (newLive 354) rfl (by decide) h)) rfl rfl ?_
  rintro _ w ⟨rfl, d1, l1, n1, c1, T1, bl1, h⟩
  have c1 : d1.calls = 3 := c1
  refine WL.val run_assign rfl rfl ?_
  refine WL.nil ?_
  refine W.seq ?_
  refine W.region ?_
  refine WL.val run_move rfl rfl ?_
  refine WL.eff (eff_call Try.call56 (sfirst l1 n1 T1 bl1 (by omega) h)) rfl rfl ?_
  rintro _ w ⟨bs, bt, br, d2, rfl, S2, c2, h⟩
  refine WL.val run_move rfl rfl ?_
  refine WL.val (run_extract rfl rfl) rfl rfl ?_
  refine WL.val (run_extract rfl rfl) rfl rfl ?_
  refine WL.val run_assign rfl rfl ?_
  refine WL.val run_assign rfl rfl ?_
  refine WL.nil ?_
  refine W.seq ?_
  refine W.seq ?_
  refine W.region ?_
  refine WL.val run_move rfl rfl ?_
  refine WL.val run_move rfl rfl ?_
  refine WL.val (run_add rfl rfl (by decide) (by decide)) rfl rfl ?_
  refine WL.val (run_neqF rfl rfl (rfl)) rfl rfl ?_
  refine WL.val run_move rfl rfl ?_
  refine WL.val run_move rfl rfl ?_
  refine WL.val (run_eqlPtrNil Try.underlying90 rfl rfl) rfl rfl ?_
  refine WL.val (run_pickF rfl) rfl rfl ?_
  refine WL.nil ?_
  refine W.condF rfl ?_
  refine W.skip ?_
  refine W.seq ?_
  refine W.region ?_
  refine WL.val run_move rfl rfl ?_
  refine WL.eff (eff_mkSlice (zl := [.int .u8 0]) (out := [.int .u8 _]) h Try.underlying22 Try.sizeOf5 Try.zeroValue5 (by decide) (by kernel_rfl) rfl rfl (by simp) (⟨⟨_, _, rfl, rfl, by decide⟩, trivial⟩) rfl rfl (by simp [maxLen])) rfl rfl ?_
  rintro _ w ⟨b35, rfl, h⟩
  refine WL.eff (eff_ofString h rfl (by omega) Try.underlying22 Try.underlying5) rfl rfl ?_
  rintro _ w ⟨rfl, h⟩
  refine WL.val (run_buildS (pl := [(0, 1), (1, 1), (2, 1)]) (out := [.int .u64 _, .int .u64 _, .slice _ _ _]) Try.underlying96 Try.zeroValue96 (fun w => by kernel_rfl) rfl (⟨⟨_, _, rfl, rfl, by decide⟩, ⟨⟨_, _, rfl, rfl, by decide⟩, ⟨⟨_, _, rfl, rfl, by decide⟩, trivial⟩⟩⟩) rfl) rfl rfl ?_
  refine WL.eff (eff_call Try.call57 (sapp (i := 0) (idx := 1) (ep := 2) (bb := [97]) (tn := 2) (hd := hd1) (snap := []) (es := []) (g := (g0R 98 256 4294967296 0 2)) (d := d2) S2 rfl (by decide) (by decide) (by decide) (by decide) (by decide) (by decide) (by omega) (((h.fetch (DiskP 106 110 b d2)).fetch (RingP 130 br b (g0R 98 256 4294967296 0 2))).fetch (StoreP 150 bs b bt br hd1 [] [])) (Gives.ownO (v := .slice (some ⟨b35, 0, none⟩) 1 1)))) rfl rfl ?_
  rintro _ w ⟨rfl, d3, S3, _, c3, h⟩
  refine WL.val run_assign rfl rfl ?_
  refine WL.nil ?_
  refine W.seq ?_
  refine W.region ?_
  refine WL.val run_move rfl rfl ?_
  refine WL.eff (eff_call Try.call95 (sepoch_ok (br := br) (ep := 5) (tn := 2) (hd := hd1) (snap := []) (es := [] ++ [⟨1, 2, [97]⟩]) (d := d3) S3.hok S3.tw (by decide) (by decide) (by decide) (by omega) (((h.fetch (DiskP 106 110 b d3)).fetch (TwinP 126 bt b 0 2 (headB hd1))).fetch (StoreP 150 bs b bt br hd1 [] ([] ++ [⟨1, 2, [97]⟩]))))) rfl rfl ?_
  rintro _ w ⟨rfl, h⟩
  have hSE := S3.epoch (ep := 5) (by decide) (by decide) rfl
  obtain ⟨S4, c4⟩ := hSE
  have h := h.fetch (DiskP 106 110 b (putT d3 0 2 (headB { hd1 with epoch := 5 })).2)
  generalize (putT d3 0 2 (headB { hd1 with epoch := 5 })).2 = d4 at h S4 c4
  refine WL.val run_assign rfl rfl ?_
  refine WL.nil ?_
  refine W.seq ?_
  refine W.region ?_
  refine WL.val run_move rfl rfl ?_
  refine WL.eff (eff_call Try.call19 (crashP (d := d4) (picks := []) (ap := none) (cp := 0) (by omega) h Gives.nilC)) rfl rfl ?_
  rintro _ w h
  refine WL.nil ?_
  refine W.seq ?_
  refine W.region ?_
  refine WL.val run_move rfl rfl ?_
  refine WL.eff (eff_call Try.call20 (don_ok (d := (crashD d4 [])) h)) rfl rfl ?_
  rintro _ w h
  have h : On W0 (DiskP 106 110 b (onD (crashD d4 [])) :: _) w := h
  rw [flat_on S4.live S4.flat] at h
  refine WL.nil ?_
  refine W.seq ?_
  refine W.region ?_
  refine WL.val run_move rfl rfl ?_
  refine WL.eff (eff_call Try.call56 (sreopen S4 rfl (by decide) (by decide) (by decide) (by omega) h)) rfl rfl ?_
  rintro _ w ⟨bs2, bt2, br2, rfl, h⟩
  refine WL.val run_move rfl rfl ?_
  refine WL.val (run_extract rfl rfl) rfl rfl ?_
  refine WL.val (run_extract rfl rfl) rfl rfl ?_
  refine WL.val run_assign rfl rfl ?_
  refine WL.val run_assign rfl rfl ?_
  refine WL.nil ?_
  refine W.seq ?_
  refine W.seq ?_
  refine W.region ?_
  refine WL.val run_move rfl rfl ?_
  refine WL.val run_move rfl rfl ?_
  refine WL.val (run_add rfl rfl (by decide) (by decide)) rfl rfl ?_
  refine WL.val run_move rfl rfl ?_
  refine WL.val (run_add rfl rfl (by decide) (by decide)) rfl rfl ?_
  refine WL.val (run_neqF rfl rfl (rfl)) rfl rfl ?_
  refine WL.val run_move rfl rfl ?_
  refine WL.val run_move rfl rfl ?_
  refine WL.val (run_eqlPtrNil Try.underlying90 rfl rfl) rfl rfl ?_
  refine WL.val (run_pickF rfl) rfl rfl ?_
  refine WL.nil ?_
  refine W.condF rfl ?_
  refine W.skip ?_
  refine W.seq ?_
  refine W.region ?_
  refine WL.val run_move rfl rfl ?_
  refine WL.eff (eff_call Try.call62 (sentry_ok (bs := bs2) (bt := bt2) (br := br2) (k := 0) (i := 1) (e := ⟨1, 2, [97]⟩) rfl rfl (by decide) (by decide) (by decide) h)) rfl rfl ?_
  rintro _ w ⟨a62, rfl, h⟩
  refine WL.val run_move rfl rfl ?_
  refine WL.val (run_extract rfl rfl) rfl rfl ?_
  refine WL.val (run_extract rfl rfl) rfl rfl ?_
  refine WL.eff (eff_alloc h Try.zeroValue96 rfl) rfl rfl ?_
  rintro _ w ⟨b10, rfl, h⟩
  refine WL.eff (eff_storeN (vs := [.int .u64 _, .int .u64 _, .slice _ _ _]) h Try.sizeOf96 rfl rfl rfl rfl rfl (fun k _ _ => free0 k)) rfl rfl ?_
  rintro _ w h
  try simp only [splice, List.take_zero, List.take_succ_cons, List.take_nil, List.drop_succ_cons, List.drop_zero, List.drop_nil, List.nil_append, List.cons_append, List.append_nil, List.length_cons, List.length_nil, Nat.zero_add, Nat.reduceAdd] at h
  refine WL.val run_assign rfl rfl ?_
  refine WL.nil ?_
  refine W.seq ?_
  refine W.region ?_
  refine WL.val run_move rfl rfl ?_
  refine WL.val run_move rfl rfl ?_
  refine WL.val (run_fieldAddr 1 Try.underlying96 rfl Try.sizeOf40 rfl rfl) rfl rfl ?_
  refine WL.val (run_load1 Try.isAgg40 rfl (h.cellB rfl)) rfl rfl ?_
  refine WL.val (run_eqlT rfl rfl (rfl)) rfl rfl ?_
  refine WL.val (run_pickT rfl) rfl rfl ?_
  refine WL.val run_move rfl rfl ?_
  refine WL.val (run_fieldAddr 2 Try.underlying96 rfl Try.sizeOf22 rfl rfl) rfl rfl ?_
  refine WL.val (run_load1 Try.isAgg22 rfl (h.cellB rfl)) rfl rfl ?_
  refine WL.val (run_bytesStr Try.underlying22 Try.underlying5 Try.underlying9 rfl (h.cellsO (v := .slice a62 1 1))) rfl rfl ?_
  refine WL.val (run_eqlStrT rfl rfl (rfl)) rfl rfl ?_
  refine WL.val (run_pickT rfl) rfl rfl ?_
  refine WL.val run_move rfl rfl ?_
  refine WL.val run_move rfl rfl ?_
  refine WL.eff (eff_call Try.call96 (sepochget_ok (bs := bs2) h.p2)) rfl rfl ?_
  rintro _ w ⟨rfl, h⟩
  refine WL.val (run_eqlT rfl rfl (rfl)) rfl rfl ?_
  refine WL.val (run_pickT rfl) rfl rfl ?_
  refine WL.val run_move rfl rfl ?_
  refine WL.val run_move rfl rfl ?_
  refine WL.eff (eff_call Try.call61 (slastP_ok (by decide) (by decide) h)) rfl rfl ?_
  rintro _ w ⟨rfl, h⟩
  refine WL.val (run_eqlT rfl rfl (rfl)) rfl rfl ?_
  refine WL.val (run_pickT rfl) rfl rfl ?_
  refine WL.val run_assign rfl rfl ?_
  refine WL.nil ?_
  refine W.ret ?_
  refine bodyQ.r1 (v := .bool _) Try.results53 rfl ?_
  -- path 
  exact ⟨rfl, h.to⟩

end Go.Proofs.Ytlahgihjjabgmaa
