/-
  The laws of a journal. Lines of walks printed by a program of the prover's.
-/
import Derived.Test.YtlahgihjjabgmaaRing4
import Derived.Test.YtlahgihjjabgmaaSlB
namespace Go.Proofs.Ytlahgihjjabgmaa
open Go Go.Sl Go.Sl.ByM Go.Sl.DkM Go.Sl.TwM Go.Sl.RgM
set_option linter.unusedVariables false
set_option linter.unusedSimpArgs false
set_option maxHeartbeats 1000000
set_option maxRecDepth 8000
variable {W0 w : World} {L F : List HProp}

theorem ropen_row {b at_ n first place life : Nat} {d : Dk} {l : List LB} {bss : List (List UInt8)} (hbs : l.map (·.2) = bss) (C : Chain d at_ n place first life l) (hn2 : 2 ≤ n) (hn4 : n ≤ 4096) (hat : at_ ≤ 4096) (hp : place < n) (hf : first ≤ 4000000000000000000) (hlf : life < 4294967296) (hs : stE d = 0) (hin : ((at_ + n : Nat) : Int) ≤ d.n) (h : On W0 (DiskP 106 110 b d :: L) w) : Calls Try.prog 34 #[.pointer (some ⟨b, 0, none⟩), .int .i64 (at_ : Int), .int .i64 (n : Int), .int .u64 (first : Int), .int .i64 (place : Int), .int .u32 (life : Int)] w (Ret fun v w' => ∃ br a, v = .tuple #[.pointer (some ⟨br, 0, none⟩), .slice a bss.length bss.length, .int .i64 0] ∧ On W0 (RingP 130 br b (rgF (g0R at_ n first place life) bss) :: OutP a bss.length bss :: DiskP 106 110 b d :: L) w') := (ropen_ok C hn2 hn4 hat hp hf hlf hs hin h).mono fun e w' he => by
  obtain ⟨v, he, hv⟩ := he
  refine ⟨v, he, ?_⟩
  rw [hbs] at hv
  exact hv

theorem rblank {b at_ n first place life : Nat} {d : Dk} (hbl : ∀ k, readD d k = List.replicate 512 0) (hn2 : 2 ≤ n) (hn4 : n ≤ 4096) (hat : at_ ≤ 4096) (hp : place < n) (hf : first ≤ 4000000000000000000) (hlf : life < 4294967296) (hs : stE d = 0) (hin : ((at_ + n : Nat) : Int) ≤ d.n) (h : On W0 (DiskP 106 110 b d :: L) w) : Calls Try.prog 34 #[.pointer (some ⟨b, 0, none⟩), .int .i64 (at_ : Int), .int .i64 (n : Int), .int .u64 (first : Int), .int .i64 (place : Int), .int .u32 (life : Int)] w (Ret fun v w' => ∃ br a, v = .tuple #[.pointer (some ⟨br, 0, none⟩), .slice a 0 0, .int .i64 0] ∧ On W0 (RingP 130 br b (g0R at_ n first place life) :: DiskP 106 110 b d :: L) w') := (ropen_row (l := []) (bss := []) rfl (chain_blank hbl) hn2 hn4 hat hp hf hlf hs hin h).mono fun e w' he => by
  obtain ⟨v, he, hv⟩ := he
  refine ⟨v, he, ?_⟩
  obtain ⟨br, a, hv, h⟩ := hv
  have h : On W0 (RingP 130 br b (g0R at_ n first place life) :: OutP a 0 [] :: DiskP 106 110 b d :: L) w' := h
  exact ⟨br, a, hv, h.to⟩

theorem append_found {br b : Nat} {g : Rg} {ax : Option Addr} {cx : Nat} {bb : List UInt8} {d : Dk} (hl : Live d) (hlow : d.calls + g.n ≤ 1000000000000) (hin : ((g.at_ + g.n : Nat) : Int) ≤ d.n) (hb : bb.length ≤ 32768) (hro : g.used + needR bb.length ≤ g.n) (hf : g.first + g.l.length + 1 ≤ 9000000000000000000) (h : On W0 (RingP 130 br b g :: DiskP 106 110 b d :: L) w) (C : Gives L (Bytes (.slice ax bb.length cx) bb)) : Calls Try.prog 35 #[.pointer (some ⟨br, 0, none⟩), .slice ax bb.length cx] w (Ret fun v w' => v = .tuple #[.int .u64 (g.next : Int), .int .i64 0] ∧ ∃ d', d' = (appD d g.at_ g.n g.place g.next g.life bb (needR bb.length)) ∧ Live d' ∧ d'.n = d.n ∧ d'.calls = d.calls + (needR bb.length : Nat) ∧ On W0 (RingP 130 br b (keepR g bb) :: DiskP 106 110 b d' :: L) w') := (append_ok hl hlow hin (by omega) hf h C).mono fun e w' he => by
  obtain ⟨v, he, hv⟩ := he
  refine ⟨v, he, ?_⟩
  have hok := ringOk h
  have hn2 := hok.n2
  obtain ⟨l1, l2, l3⟩ := app_live (place := g.place) (number := g.next) (life := g.life) (b := bb) hl (by omega) hin (needR bb.length)
  rcases hv with ⟨hh, _⟩ | ⟨_, hh, _⟩ | ⟨_, _, hv, h⟩
  · omega
  · omega
  · exact ⟨hv, _, rfl, l1, l2, l3, h⟩

theorem flush_found {br b : Nat} {g : Rg} {d : Dk} (hl : Live d) (hlow : d.calls ≤ 1000000000000) (h : On W0 (RingP 130 br b g :: DiskP 106 110 b d :: L) w) : Calls Try.prog 36 #[.pointer (some ⟨br, 0, none⟩)] w (Ret fun v w' => v = .int .i64 0 ∧ ∃ d', Live d' ∧ Flat d' ∧ d'.n = d.n ∧ d'.calls = d.calls + 1 ∧ (∀ k, readD d' k = readD d k) ∧ On W0 (RingP 130 br b g :: DiskP 106 110 b d' :: L) w') := (rflush_ok ⟨hlow, by rw [hl.armed]; decide⟩ h).mono fun e w' he => by
  obtain ⟨v, he, hv⟩ := he
  refine ⟨v, he, ?_⟩
  obtain ⟨hv, h⟩ := hv
  obtain ⟨e1, l1, r1⟩ := live_flush hl
  rw [e1] at hv
  exact ⟨hv, _, l1, flat_flush hl, flushD_n d, by rw [e1], r1, h⟩

theorem gknown_ok (h : On W0 F w) : Calls Try.prog 33 #[] w (Ret fun v w' => v = .bool true ∧ On W0 F w') := by
  refine enter Try.func33 rfl Try.ntmps33 rfl ?_
  refine W.seq ?_
  refine W.region ?_
  refine WL.val run_assign rfl rfl ?_
  refine WL.nil ?_
  refine W.seq ?_
  refine W.region ?_
  refine WL.eff (eff_call Try.call16 (new_ok h)) rfl rfl ?_
  rintro _ w hv
  rcases hv with ⟨_, _, b, rfl, h⟩ | ⟨hno, _, _⟩
  rotate_left
  · exact absurd ⟨by decide, by decide⟩ hno
  refine WL.val run_move rfl rfl ?_
  refine WL.val (run_extract rfl rfl) rfl rfl ?_
  refine WL.val (run_extract rfl rfl) rfl rfl ?_
  refine WL.val run_assign rfl rfl ?_
  refine WL.val run_assign rfl rfl ?_
  refine WL.nil ?_
  refine W.seq ?_
  refine W.region ?_
  refine WL.val run_move rfl rfl ?_
  refine WL.eff (eff_call Try.call34 (rblank (d := newD 8) (at_ := 1) (n := 6) (first := 1) (place := 0) (life := 1) (fun k => rfl) (by decide) (by decide) (by decide) (by decide) (by decide) (by decide) rfl (by decide) h)) rfl rfl ?_
  rintro _ w ⟨br, a18, rfl, h⟩
  refine WL.val run_move rfl rfl ?_
  refine WL.val (run_extract rfl rfl) rfl rfl ?_
  refine WL.val (run_extract rfl rfl) rfl rfl ?_
  refine WL.val (run_extract rfl rfl) rfl rfl ?_
  refine WL.val run_assign rfl rfl ?_
  refine WL.val run_assign rfl rfl ?_
  refine WL.val run_assign rfl rfl ?_
  refine WL.nil ?_
  refine W.seq ?_
  refine W.seq ?_
  refine W.region ?_
  refine WL.val run_move rfl rfl ?_
  refine WL.val (run_neqF rfl rfl (rfl)) rfl rfl ?_
  refine WL.val run_move rfl rfl ?_
  refine WL.val run_move rfl rfl ?_
  refine WL.val (run_eqlPtrNil Try.underlying56 rfl rfl) rfl rfl ?_
  refine WL.val (run_pickF rfl) rfl rfl ?_
  refine WL.val run_move rfl rfl ?_
  refine WL.val run_move rfl rfl ?_
  refine WL.val (run_lenSlice Try.underlying23 rfl) rfl rfl ?_
  refine WL.val (run_neqF rfl rfl (rfl)) rfl rfl ?_
  refine WL.val (run_pickF rfl) rfl rfl ?_
  refine WL.nil ?_
  refine W.condF rfl ?_
  refine W.skip ?_
  refine W.seq ?_
  refine W.region ?_
  refine WL.val run_move rfl rfl ?_
  refine WL.eff (eff_mkSlice (zl := [.int .u8 0, .int .u8 0, .int .u8 0]) (out := [.int .u8 _, .int .u8 _, .int .u8 _]) h Try.underlying22 Try.sizeOf5 Try.zeroValue5 (by decide) (by kernel_rfl) rfl rfl (by simp) (⟨⟨_, _, rfl, rfl, by decide⟩, ⟨⟨_, _, rfl, rfl, by decide⟩, ⟨⟨_, _, rfl, rfl, by decide⟩, trivial⟩⟩⟩) rfl rfl (by simp [maxLen])) rfl rfl ?_
  rintro _ w ⟨b35, rfl, h⟩
  refine WL.eff (eff_ofString h rfl (by omega) Try.underlying22 Try.underlying5) rfl rfl ?_
  rintro _ w ⟨rfl, h⟩
  refine WL.eff (eff_call Try.call35 (append_found (g := (g0R 1 6 1 0 1)) (bb := [97, 98, 99]) (d := newD 8) (newLive 8) (by decide) (by decide) (by decide) (by decide) (by decide) ((h.fetch (DiskP 106 110 b (newD 8))).fetch (RingP 130 br b (g0R 1 6 1 0 1))) (Gives.ownO (v := .slice (some ⟨b35, 0, none⟩) 3 3)))) rfl rfl ?_
  rintro _ w ⟨rfl, d1, hd1, l1, n1, c1, h⟩
  have n1 : d1.n = 8 := n1
  have c1 : d1.calls = 1 := c1
  have C1 : Chain d1 1 6 0 1 1 [(1, [97, 98, 99])] := by
    have hr : ∀ k, readD (newD 8) k = List.replicate 512 0 := fun k => rfl
    have := Chain.app (d := newD 8) (at_ := 1) (n := 6) (place := 0) (first := 1) (life := 1) (l2 := 1) (l := []) (b := [97, 98, 99]) (chain_blank hr) (newLive 8) (by decide) (by decide) (by decide) (by decide) (by decide) (by decide) (.inr (.inl (by rw [hr]; exact unpackR_zero)))
    rw [hd1]
    exact this
  refine WL.val run_move rfl rfl ?_
  refine WL.val (run_extract rfl rfl) rfl rfl ?_
  refine WL.val (run_extract rfl rfl) rfl rfl ?_
  refine WL.val run_assign rfl rfl ?_
  refine WL.val run_assign rfl rfl ?_
  refine WL.nil ?_
  refine W.seq ?_
  refine W.region ?_
  refine WL.val run_move rfl rfl ?_
  refine WL.eff (eff_call Try.call36 (flush_found (g := (keepR (g0R 1 6 1 0 1) [97, 98, 99])) l1 (by omega) h)) rfl rfl ?_
  rintro _ w ⟨rfl, d2, l2, f2, n2, c2, r2, h⟩
  have C2 := C1.same r2
  have C3 : Chain d2 1 6 0 1 2 [(1, [97, 98, 99])] := C2.life (by decide) (by
    have ob_ := C2.gone
    rcases ob_ with g | g
    · exact absurd g (by decide)
    refine .inr (.inl ?_)
    have hz : readD d2 (posR 1 6 ((0 + usedR [(1, [97, 98, 99])]) % 6) 0) = List.replicate 512 0 := by
      rw [r2, hd1, app_else (newLive 8) (by decide) (by decide)]
      · rfl
      · decide
    rw [hz]
    exact unpackR_zero)
  refine WL.val run_assign rfl rfl ?_
  refine WL.nil ?_
  refine W.seq ?_
  refine W.region ?_
  refine WL.val run_move rfl rfl ?_
  refine WL.eff (eff_call Try.call19 (crashP (d := d2) (picks := []) (ap := none) (cp := 0) (by omega) (h.fetch (DiskP 106 110 b d2)) Gives.nilC)) rfl rfl ?_
  rintro _ w h
  refine WL.nil ?_
  refine W.seq ?_
  refine W.region ?_
  refine WL.val run_move rfl rfl ?_
  refine WL.eff (eff_call Try.call20 (don_ok (d := (crashD d2 [])) h)) rfl rfl ?_
  rintro _ w h
  have h : On W0 (DiskP 106 110 b (onD (crashD d2 [])) :: _) w := h
  refine WL.nil ?_
  refine W.seq ?_
  rw [flat_on l2 f2] at h
  refine W.region ?_
  refine WL.val run_move rfl rfl ?_
  refine WL.eff (eff_call Try.call34 (ropen_row (at_ := 1) (n := 6) (first := 1) (place := 0) (life := 2) (l := [(1, [97, 98, 99])]) (bss := [[97, 98, 99]]) rfl C3 (by decide) (by decide) (by decide) (by decide) (by decide) (by decide) l2.st (by omega) h)) rfl rfl ?_
  rintro _ w ⟨bs, a48, rfl, h⟩
  refine WL.val run_move rfl rfl ?_
  refine WL.val (run_extract rfl rfl) rfl rfl ?_
  refine WL.val (run_extract rfl rfl) rfl rfl ?_
  refine WL.val (run_extract rfl rfl) rfl rfl ?_
  refine WL.val run_assign rfl rfl ?_
  refine WL.val run_assign rfl rfl ?_
  refine WL.val run_assign rfl rfl ?_
  refine WL.nil ?_
  refine W.seq ?_
  refine W.region ?_
  refine WL.val run_move rfl rfl ?_
  refine WL.val run_move rfl rfl ?_
  refine WL.val (run_add rfl rfl (by decide) (by decide)) rfl rfl ?_
  refine WL.val run_move rfl rfl ?_
  refine WL.val (run_add rfl rfl (by decide) (by decide)) rfl rfl ?_
  refine WL.val (run_eqlT rfl rfl (rfl)) rfl rfl ?_
  refine WL.val run_move rfl rfl ?_
  refine WL.val run_move rfl rfl ?_
  refine WL.val (run_eqlT rfl rfl (rfl)) rfl rfl ?_
  refine WL.val (run_pickT rfl) rfl rfl ?_
  refine WL.val run_move rfl rfl ?_
  refine WL.val run_move rfl rfl ?_
  refine WL.val (run_neqPtrNil Try.underlying56 rfl rfl) rfl rfl ?_
  refine WL.val (run_pickT rfl) rfl rfl ?_
  refine WL.val run_move rfl rfl ?_
  refine WL.val run_move rfl rfl ?_
  refine WL.val (run_lenSlice Try.underlying23 rfl) rfl rfl ?_
  refine WL.val (run_eqlT rfl rfl (rfl)) rfl rfl ?_
  refine WL.val (run_pickT rfl) rfl rfl ?_
  refine WL.val run_move rfl rfl ?_
  have ob_ := openO1 (h.fetch (OutP a48 1 [[97, 98, 99]]))
  obtain ⟨ba, oa, ax, cx, pool, rfl, hx3, h⟩ := ob_
  have gB := hx3.gives (L := [])
  refine WL.val run_move rfl rfl ?_
  refine WL.val (run_indexAddr Try.underlying23 Try.sizeOf22 rfl rfl (by decide) (by decide)) rfl rfl ?_
  refine WL.val (run_load1 Try.isAgg22 rfl ((h.cellsO (v := .slice (some ⟨ba, oa, none⟩) 1 1)).elem (i := 0) (vs := [.slice ax 3 cx]) (by decide) rfl 0 _ rfl)) rfl rfl ?_
  refine WL.val (run_bytesStr Try.underlying22 Try.underlying5 Try.underlying9 rfl (h.readsTo gB)) rfl rfl ?_
  refine WL.val (run_eqlStrT rfl rfl (rfl)) rfl rfl ?_
  refine WL.val (run_pickT rfl) rfl rfl ?_
  refine WL.val run_move rfl rfl ?_
  refine WL.val run_move rfl rfl ?_
  refine WL.eff (eff_call Try.call87 (rnext_ok (g := (rgF (g0R 1 6 1 0 2) [[97, 98, 99]])) (h.fetch (RingP 130 bs b (rgF (g0R 1 6 1 0 2) [[97, 98, 99]]))))) rfl rfl ?_
  rintro _ w ⟨rfl, h⟩
  refine WL.val (run_eqlT rfl rfl (rfl)) rfl rfl ?_
  refine WL.val (run_pickT rfl) rfl rfl ?_
  refine WL.val run_move rfl rfl ?_
  refine WL.val run_move rfl rfl ?_
  refine WL.eff (eff_call Try.call37 (rroom_ok h)) rfl rfl ?_
  rintro _ w ⟨rfl, h⟩
  refine WL.val (run_eqlT rfl rfl (rfl)) rfl rfl ?_
  refine WL.val (run_pickT rfl) rfl rfl ?_
  refine WL.val run_move rfl rfl ?_
  refine WL.eff (eff_call Try.call40 (need_ok (n := 481) (by decide) h)) rfl rfl ?_
  rintro _ w ⟨rfl, h⟩
  refine WL.val (run_eqlT rfl rfl (rfl)) rfl rfl ?_
  refine WL.val (run_pickT rfl) rfl rfl ?_
  refine WL.val run_assign rfl rfl ?_
  refine WL.nil ?_
  refine W.ret ?_
  refine bodyQ.r1 (v := .bool _) Try.results33 rfl ?_
  -- path 
  exact ⟨rfl, h.to⟩

theorem glong_ok {n place : Int} (h : On W0 F w) : Calls Try.prog 8 #[.int .i64 n, .int .i64 place] w (Ret fun v w' => v = .bool true ∧ On W0 F w') := by
  refine enter Try.func8 rfl Try.ntmps8 rfl ?_
  refine W.seq ?_
  refine W.region ?_
  refine WL.val run_assign rfl rfl ?_
  refine WL.nil ?_
  refine W.seq ?_
  refine W.seq ?_
  refine W.region ?_
  refine WL.eff (eff_call Try.call33 (gknown_ok h)) rfl rfl ?_
  rintro _ w ⟨rfl, h⟩
  refine WL.val (run_not rfl) rfl rfl ?_
  refine WL.nil ?_
  refine W.condF rfl ?_
  refine W.skip ?_
  refine W.seq ?_
  refine W.seq ?_
  refine W.region ?_
  refine WL.val run_move rfl rfl ?_
  refine WL.dec (run_lss rfl rfl) rfl rfl (fun c22 => ?_) (fun c22 => ?_)
  · skip
    refine WL.val run_move rfl rfl ?_
    refine WL.skip rfl rfl ?_
    refine WL.skip rfl rfl ?_
    refine WL.val (run_pickT rfl) rfl rfl ?_
    refine WL.val run_move rfl rfl ?_
    refine WL.skip rfl rfl ?_
    refine WL.skip rfl rfl ?_
    refine WL.val (run_pickT rfl) rfl rfl ?_
    refine WL.val run_move rfl rfl ?_
    refine WL.skip rfl rfl ?_
    refine WL.skip rfl rfl ?_
    refine WL.val (run_pickT rfl) rfl rfl ?_
    refine WL.nil ?_
    refine W.condT rfl ?_
    refine W.seq ?_
    refine W.region ?_
    refine WL.val run_assign rfl rfl ?_
    refine WL.nil ?_
    refine W.ret ?_
    refine bodyQ.r1 (v := .bool _) Try.results8 rfl ?_
    -- path T
    exact ⟨rfl, h⟩
  · skip
    refine WL.val run_move rfl rfl ?_
    refine WL.val run_move rfl rfl ?_
    refine WL.dec (run_gtr rfl rfl) rfl rfl (fun c25 => ?_) (fun c25 => ?_)
    · skip
      refine WL.val (run_pickF rfl) rfl rfl ?_
      refine WL.val run_move rfl rfl ?_
      refine WL.skip rfl rfl ?_
      refine WL.skip rfl rfl ?_
      refine WL.val (run_pickT rfl) rfl rfl ?_
      refine WL.val run_move rfl rfl ?_
      refine WL.skip rfl rfl ?_
      refine WL.skip rfl rfl ?_
      refine WL.val (run_pickT rfl) rfl rfl ?_
      refine WL.nil ?_
      refine W.condT rfl ?_
      refine W.seq ?_
      refine W.region ?_
      refine WL.val run_assign rfl rfl ?_
      refine WL.nil ?_
      refine W.ret ?_
      refine bodyQ.r1 (v := .bool _) Try.results8 rfl ?_
      -- path FT
      exact ⟨rfl, h.to⟩
    · skip
      refine WL.val (run_pickF rfl) rfl rfl ?_
      refine WL.val run_move rfl rfl ?_
      refine WL.val run_move rfl rfl ?_
      refine WL.dec (run_lss rfl rfl) rfl rfl (fun c29 => ?_) (fun c29 => ?_)
      · skip
        refine WL.val (run_pickF rfl) rfl rfl ?_
        refine WL.val run_move rfl rfl ?_
        refine WL.skip rfl rfl ?_
        refine WL.skip rfl rfl ?_
        refine WL.val (run_pickT rfl) rfl rfl ?_
        refine WL.nil ?_
        refine W.condT rfl ?_
        refine W.seq ?_
        refine W.region ?_
        refine WL.val run_assign rfl rfl ?_
        refine WL.nil ?_
        refine W.ret ?_
        refine bodyQ.r1 (v := .bool _) Try.results8 rfl ?_
        -- path FFT
        exact ⟨rfl, h.to⟩
      · skip
        refine WL.val (run_pickF rfl) rfl rfl ?_
        refine WL.val run_move rfl rfl ?_
        refine WL.val run_move rfl rfl ?_
        refine WL.val (run_geq rfl rfl) rfl rfl ?_
        refine WL.val (run_pickF rfl) rfl rfl ?_
        refine WL.nil ?_
        refine W.condIf rfl (fun c7 => ?_) (fun c7 => ?_)
        · skip
          refine W.seq ?_
          refine W.region ?_
          refine WL.val run_assign rfl rfl ?_
          refine WL.nil ?_
          refine W.ret ?_
          refine bodyQ.r1 (v := .bool _) Try.results8 rfl ?_
          -- path FFFT
          exact ⟨rfl, h.to⟩
        · skip
          refine W.skip ?_
          refine W.seq ?_
          have hn0 := Int.eq_ofNat_of_zero_le (show 0 ≤ n by omega)
          obtain ⟨m, rfl⟩ := hn0
          have hp0 := Int.eq_ofNat_of_zero_le (show 0 ≤ place by omega)
          obtain ⟨p, rfl⟩ := hp0
          have hm33 : m ≤ 33000 := by omega
          have hp70 : p < 70 := by omega
          refine W.region ?_
          refine WL.eff (eff_call Try.call16 (new_ok h)) rfl rfl ?_
          rintro _ w hv
          rcases hv with ⟨_, _, b, rfl, h⟩ | ⟨hno, _, _⟩
          rotate_left
          · exact absurd ⟨by decide, by decide⟩ hno
          refine WL.val run_move rfl rfl ?_
          refine WL.val (run_extract rfl rfl) rfl rfl ?_
          refine WL.val (run_extract rfl rfl) rfl rfl ?_
          refine WL.val run_assign rfl rfl ?_
          refine WL.val run_assign rfl rfl ?_
          refine WL.nil ?_
          refine W.seq ?_
          refine W.region ?_
          refine WL.val run_move rfl rfl ?_
          refine WL.val run_move rfl rfl ?_
          refine WL.eff (eff_call Try.call34 (rblank (d := newD 70) (at_ := 0) (n := 70) (first := 5) (place := p) (life := 1) (fun k => rfl) (by decide) (by decide) (by decide) hp70 (by decide) (by decide) rfl (by decide) h)) rfl rfl ?_
          rintro _ w ⟨br, a42, rfl, h⟩
          refine WL.val run_move rfl rfl ?_
          refine WL.val (run_extract rfl rfl) rfl rfl ?_
          refine WL.val (run_extract rfl rfl) rfl rfl ?_
          refine WL.val (run_extract rfl rfl) rfl rfl ?_
          refine WL.val run_assign rfl rfl ?_
          refine WL.val run_assign rfl rfl ?_
          refine WL.val run_assign rfl rfl ?_
          refine WL.nil ?_
          refine W.seq ?_
          have hmx := maxLen_eq
          refine W.region ?_
          refine WL.val run_move rfl rfl ?_
          refine WL.eff (eff_make (n := m) (bytes := 1) h (rfl) (rfl) Try.underlying22 rfl rfl rfl rfl rfl (by omega) (by omega)) rfl rfl ?_
          rintro _ w ⟨b47, rfl, h⟩
          refine WL.val run_assign rfl rfl ?_
          refine WL.nil ?_
          refine W.seq ?_
          refine W.seq ?_
          rw [← zerosB] at h
          refine W.region ?_
          refine WL.val run_assign rfl rfl ?_
          refine WL.nil ?_
          refine W.block ?_
          refine W.loop (fun (i : Nat) env w => i ≤ m ∧ ∃ (j : Env) (bb : List UInt8), bb.length = m ∧ env = mkE j [(0, .int .i64 (m : Int)), (1, .int .i64 (p : Int)), (5, .pointer (some ⟨b, 0, none⟩)), (7, .pointer (some ⟨br, 0, none⟩)), (10, .slice (some ⟨b47, 0, none⟩) m m), (11, .int .i64 (i : Int))] ∧ On W0 (Own 1 (.slice (some ⟨b47, 0, none⟩) m m) m (bytesV bb) :: RingP 130 br b (g0R 0 70 5 p 1) :: DiskP 106 110 b (newD 70) :: F) w) (fun i => m - i) (0) ?_ ?_
          · exact ⟨Nat.zero_le _, _, List.replicate m 0, List.length_replicate, mkE_of ⟨rfl, rfl, rfl, rfl, rfl, rfl, trivial⟩, h.to⟩
          · rintro i env w ⟨hi, j, bb, hbl, rfl, h⟩
            refine W.seq ?_
            refine W.seq ?_
            refine W.region ?_
            refine WL.val run_move rfl rfl ?_
            refine WL.val run_move rfl rfl ?_
            refine WL.val (run_lss rfl rfl) rfl rfl ?_
            refine WL.nil ?_
            refine W.condIf rfl (fun c18 => ?_) (fun c18 => ?_)
            · skip
              refine W.skip ?_
              refine W.seq ?_
              refine W.block ?_
              refine W.region ?_
              refine WL.val run_move rfl rfl ?_
              refine WL.val run_move rfl rfl ?_
              refine WL.val run_move rfl rfl ?_
              refine WL.val (run_mulN (m := i) (n := 7) rfl rfl (by omega)) rfl rfl ?_
              refine WL.val (run_convByte (n := i * 7) Try.underlying3 Try.underlying5 rfl) rfl rfl ?_
              refine WL.val (run_indexAddr Try.underlying22 Try.sizeOf5 rfl rfl (by omega) (by omega)) rfl rfl ?_
              refine WL.eff (eff_storeOwn (size := 1) (k := i * 1) (v := .int .u8 ((UInt8.ofNat (i * 7)).toNat : Int)) h Try.sizeOf5 rfl rfl rfl (by omega)) rfl rfl ?_
              rintro _ w h
              rw [Nat.mul_one] at h
              refine WL.nil ?_
              refine W.region ?_
              refine WL.val run_move rfl rfl ?_
              refine WL.val (run_incN rfl rfl (by omega)) rfl rfl ?_
              refine WL.val run_assign rfl rfl ?_
              refine WL.nil ?_
              -- round, path FFFFLT
              rw [bytes_set] at h
              exact ⟨i + 1, ⟨by omega, _, bb.set i (UInt8.ofNat (i * 7)), by rw [List.length_set]; exact hbl, mkE_of ⟨rfl, rfl, rfl, rfl, rfl, rfl, trivial⟩, h.to⟩, by show m - (i + 1) < m - i; omega⟩
            · skip
              refine W.exit ?_
              refine W.seq ?_
              subst hbl
              have h := (h.fetch (DiskP 106 110 b (newD 70))).fetch (RingP 130 br b (g0R 0 70 5 p 1))
              have hnb := needR_bound (n := bb.length) (m := 69)
              have hnp := needR_pos bb.length
              refine W.region ?_
              refine WL.val run_move rfl rfl ?_
              refine WL.val run_move rfl rfl ?_
              refine WL.eff (eff_call Try.call35 (append_ok (g := (g0R 0 70 5 p 1)) (bb := bb) (newLive 70) (by show (0 : Int) + 70 ≤ 1000000000000; decide) (by show ((0 + 70 : Nat) : Int) ≤ 70; decide) (by omega) (by show 5 + 0 + 1 ≤ _; decide) h (Gives.ownO (v := .slice (some ⟨b47, 0, none⟩) bb.length bb.length)))) rfl rfl ?_
              rintro _ w hg
              rcases hg with ⟨hlg, rfl, h⟩ | ⟨hg1, hg2, _⟩ | ⟨hle, hro, rfl, h⟩
              rotate_left
              · have := hnb (by omega) (by decide)
                have hg2 : 70 < 0 + needR bb.length := hg2
                omega
              rotate_left
              · skip
                refine WL.val run_move rfl rfl ?_
                refine WL.val (run_extract rfl rfl) rfl rfl ?_
                refine WL.val (run_extract rfl rfl) rfl rfl ?_
                refine WL.val run_assign rfl rfl ?_
                refine WL.val run_assign rfl rfl ?_
                refine WL.nil ?_
                refine W.seq ?_
                refine W.seq ?_
                refine W.region ?_
                refine WL.val run_move rfl rfl ?_
                refine WL.val (run_gtrT rfl rfl (by omega)) rfl rfl ?_
                refine WL.nil ?_
                refine W.condT rfl ?_
                refine W.seq ?_
                refine W.region ?_
                refine WL.val run_move rfl rfl ?_
                refine WL.val (run_eqlT rfl rfl (rfl)) rfl rfl ?_
                refine WL.val run_move rfl rfl ?_
                refine WL.val run_move rfl rfl ?_
                refine WL.eff (eff_call Try.call37 (rroom_ok h)) rfl rfl ?_
                rintro _ w ⟨rfl, h⟩
                refine WL.val (run_eqlT rfl rfl (rfl)) rfl rfl ?_
                refine WL.val (run_pickT rfl) rfl rfl ?_
                refine WL.val run_assign rfl rfl ?_
                refine WL.nil ?_
                refine W.ret ?_
                refine bodyQ.r1 (v := .bool _) Try.results8 rfl ?_
                -- path FFFFLFT
                exact ⟨rfl, h.to⟩
              · skip
                refine WL.val run_move rfl rfl ?_
                refine WL.val (run_extract rfl rfl) rfl rfl ?_
                refine WL.val (run_extract rfl rfl) rfl rfl ?_
                refine WL.val run_assign rfl rfl ?_
                refine WL.val run_assign rfl rfl ?_
                refine WL.nil ?_
                refine W.seq ?_
                refine W.seq ?_
                refine W.region ?_
                refine WL.val run_move rfl rfl ?_
                refine WL.val (run_gtrF rfl rfl (by omega)) rfl rfl ?_
                refine WL.nil ?_
                refine W.condF rfl ?_
                refine W.skip ?_
                refine W.seq ?_
                have C1 : Chain (appD (newD 70) 0 70 p 5 1 bb (needR bb.length)) 0 70 p 5 1 [(1, bb)] := by
                  have hr : ∀ k, readD (newD 70) k = List.replicate 512 0 := fun k => rfl
                  have hpm : (p + usedR ([] : List LB)) % 70 = p := Nat.mod_eq_of_lt (by show p + 0 < 70; omega)
                  have hro2 : usedR ([] : List LB) + needR bb.length ≤ 70 := by have hro2 : 0 + needR bb.length ≤ 70 := hro; exact hro2
                  have := Chain.app (d := newD 70) (at_ := 0) (n := 70) (place := p) (first := 5) (life := 1) (l2 := 1) (l := []) (b := bb) (chain_blank hr) (newLive 70) (by decide) (by decide) (by decide) (by decide) hle hro2 (.inr (.inl (by rw [hr]; exact unpackR_zero)))
                  rw [hpm] at this
                  exact this
                have hap := app_live (d := newD 70) (at_ := 0) (n := 70) (place := p) (number := 5) (life := 1) (b := bb) (newLive 70) (by decide) (by decide) (needR bb.length)
                obtain ⟨l1, n1, c1⟩ := hap
                have ob_ : ∃ d1, d1 = appD (newD 70) 0 70 p 5 1 bb (needR bb.length) := ⟨_, rfl⟩
                obtain ⟨d1, hd1⟩ := ob_
                have h : On W0 (RingP 130 br b (keepR (g0R 0 70 5 p 1) bb) :: DiskP 106 110 b (appD (newD 70) 0 70 p 5 1 bb (needR bb.length)) :: _) w := h
                rw [← hd1] at h l1 n1 c1 C1
                have n1 : d1.n = 70 := n1
                refine W.region ?_
                refine WL.val run_move rfl rfl ?_
                refine WL.eff (eff_call Try.call38 (rread_ok (g := (keepR (g0R 0 70 5 p 1) bb)) (k := 0) (x := (p, bb)) rfl h)) rfl rfl ?_
                rintro _ w ⟨a76, rfl, h⟩
                refine WL.val run_move rfl rfl ?_
                refine WL.val (run_extract rfl rfl) rfl rfl ?_
                refine WL.val (run_extract rfl rfl) rfl rfl ?_
                refine WL.val run_assign rfl rfl ?_
                refine WL.val run_assign rfl rfl ?_
                refine WL.nil ?_
                refine W.seq ?_
                refine W.region ?_
                refine WL.val run_move rfl rfl ?_
                refine WL.val run_move rfl rfl ?_
                refine WL.eff (eff_call Try.call34 (ropen_row (at_ := 0) (n := 70) (first := 5) (place := p) (life := 1) (l := [(1, bb)]) (bss := [bb]) rfl C1 (by decide) (by decide) (by decide) hp70 (by decide) (by decide) l1.st (by omega) (h.fetch (DiskP 106 110 b d1)))) rfl rfl ?_
                rintro _ w ⟨bs, a82, rfl, h⟩
                refine WL.val run_move rfl rfl ?_
                refine WL.val (run_extract rfl rfl) rfl rfl ?_
                refine WL.val (run_extract rfl rfl) rfl rfl ?_
                refine WL.val (run_extract rfl rfl) rfl rfl ?_
                refine WL.val run_assign rfl rfl ?_
                refine WL.val run_assign rfl rfl ?_
                refine WL.val run_assign rfl rfl ?_
                refine WL.nil ?_
                refine W.seq ?_
                have ob_ := openO1 (h.fetch (OutP a82 1 [bb]))
                obtain ⟨ba, oa, ax, cx, pool, rfl, hx3, h⟩ := ob_
                have gB := hx3.gives (L := [])
                refine W.draw Try.follows h (fun w h => ?_)
                refine WT.pure 0 rfl (by kernel_rfl) (fun w' => run_move) rfl rfl ?_
                refine WT.pure 1 rfl (by kernel_rfl) (fun w' => run_move) rfl rfl ?_
                refine WT.pure 2 rfl (by kernel_rfl) (fun w' => (run_add rfl rfl (by decide) (by decide))) rfl rfl ?_
                refine WT.pure 3 rfl (by kernel_rfl) (fun w' => run_move) rfl rfl ?_
                refine WT.pure 4 rfl (by kernel_rfl) (fun w' => (run_add rfl rfl (by decide) (by decide))) rfl rfl ?_
                refine WT.pure 5 rfl (by kernel_rfl) (fun w' => run_eqlT rfl rfl (rfl)) rfl rfl ?_
                refine WT.pure 6 rfl (by kernel_rfl) (fun w' => run_move) rfl rfl ?_
                refine WT.pure 7 rfl (by kernel_rfl) (fun w' => run_move) rfl rfl ?_
                refine WT.pure 8 rfl (by kernel_rfl) (fun w' => run_eqlT rfl rfl (rfl)) rfl rfl ?_
                refine WT.pure 9 rfl (by kernel_rfl) (fun w' => (run_pickT rfl)) rfl rfl ?_
                refine WT.pure 10 rfl (by kernel_rfl) (fun w' => run_move) rfl rfl ?_
                refine WT.pure 11 rfl (by kernel_rfl) (fun w' => run_move) rfl rfl ?_
                refine WT.take 12 (fun w => Bytes (.slice a76 bb.length bb.length) (bb) (hp w)) rfl (by kernel_rfl) rfl rfl (h.cellsO (v := .slice a76 bb.length bb.length)) (fun w' hC => run_bytesStr Try.underlying22 Try.underlying5 Try.underlying9 rfl hC) ?_
                refine WT.pure 13 rfl (by kernel_rfl) (fun w' => run_move) rfl rfl ?_
                refine WT.take 14 (fun w => Bytes (.slice (some ⟨b47, 0, none⟩) bb.length bb.length) (bb) (hp w)) rfl (by kernel_rfl) rfl rfl (h.cellsO (v := .slice (some ⟨b47, 0, none⟩) bb.length bb.length)) (fun w' hC => run_bytesStr Try.underlying22 Try.underlying5 Try.underlying9 rfl hC) ?_
                refine WT.pure 15 rfl (by kernel_rfl) (fun w' => run_eqlStrT rfl rfl (rfl)) rfl rfl ?_
                refine WT.pure 16 rfl (by kernel_rfl) (fun w' => (run_pickT rfl)) rfl rfl ?_
                refine WT.pure 17 rfl (by kernel_rfl) (fun w' => run_move) rfl rfl ?_
                refine WT.pure 18 rfl (by kernel_rfl) (fun w' => run_move) rfl rfl ?_
                refine WT.pure 19 rfl (by kernel_rfl) (fun w' => (run_lenSlice Try.underlying23 rfl)) rfl rfl ?_
                refine WT.pure 20 rfl (by kernel_rfl) (fun w' => run_eqlT rfl rfl (rfl)) rfl rfl ?_
                refine WT.pure 21 rfl (by kernel_rfl) (fun w' => (run_pickT rfl)) rfl rfl ?_
                refine WT.pure 22 rfl (by kernel_rfl) (fun w' => run_move) rfl rfl ?_
                refine WT.pure 23 rfl (by kernel_rfl) (fun w' => run_move) rfl rfl ?_
                refine WT.pure 24 rfl (by kernel_rfl) (fun w' => (run_indexAddr Try.underlying23 Try.sizeOf22 rfl rfl (by decide) (by show (0 : Int) < 1; decide))) rfl rfl ?_
                refine WT.load1 25 rfl (by kernel_rfl) Try.isAgg22 rfl ((h.cellsO (v := .slice (some ⟨ba, oa, none⟩) 1 1)).elem (i := 0) (vs := [.slice ax bb.length cx]) (by decide) rfl 0 _ rfl) rfl rfl ?_
                refine WT.take 26 (fun w => Bytes (.slice ax bb.length cx) (bb) (hp w)) rfl (by kernel_rfl) rfl rfl (h.readsTo gB) (fun w' hC => run_bytesStr Try.underlying22 Try.underlying5 Try.underlying9 rfl hC) ?_
                refine WT.pure 27 rfl (by kernel_rfl) (fun w' => run_move) rfl rfl ?_
                refine WT.take 28 (fun w => Bytes (.slice (some ⟨b47, 0, none⟩) bb.length bb.length) (bb) (hp w)) rfl (by kernel_rfl) rfl rfl (h.cellsO (v := .slice (some ⟨b47, 0, none⟩) bb.length bb.length)) (fun w' hC => run_bytesStr Try.underlying22 Try.underlying5 Try.underlying9 rfl hC) ?_
                refine WT.pure 29 rfl (by kernel_rfl) (fun w' => run_eqlStrT rfl rfl (rfl)) rfl rfl ?_
                refine WT.pure 30 rfl (by kernel_rfl) (fun w' => (run_pickT rfl)) rfl rfl ?_
                refine WT.pure 31 rfl (by kernel_rfl) (fun w' => run_move) rfl rfl ?_
                refine WT.pure 32 rfl (by kernel_rfl) (fun w' => run_move) rfl rfl ?_
                refine WT.pure 34 rfl (by kernel_rfl) (fun w' => run_move) rfl rfl ?_
                refine WT.eff 33 [false, false, false, false, false] rfl (by kernel_rfl) (by kernel_rfl) (eff_call Try.call37 (rroom_ok (g := (rgF (g0R 0 70 5 p 1) [bb])) (h.fetch (RingP 130 bs b (rgF (g0R 0 70 5 p 1) [bb]))))) rfl rfl ?_
                rintro _ w ⟨rfl, h⟩
                refine ⟨trivial, ?_⟩
                refine WT.eff 35 [] rfl (by kernel_rfl) (by kernel_rfl) (eff_call Try.call39 (rneed_ok (n := bb.length) (by omega) h)) rfl rfl ?_
                rintro _ w ⟨rfl, h⟩
                refine ⟨trivial, ?_⟩
                refine WT.pure 36 rfl (by kernel_rfl) (fun w' => (run_subN (m := 70) (n := needR bb.length) rfl rfl (by have := hnb (by omega) (by decide); omega) (by decide))) rfl rfl ?_
                refine WT.pure 37 rfl (by kernel_rfl) (fun w' => run_eqlT rfl rfl (by show ((70 - (0 + needR bb.length) : Nat) : Int) = _; rw [Nat.zero_add])) rfl rfl ?_
                refine WT.pure 38 rfl (by kernel_rfl) (fun w' => (run_pickT rfl)) rfl rfl ?_
                refine WT.pure 39 rfl (by kernel_rfl) (fun w' => run_assign) rfl rfl ?_
                refine WT.done (by kernel_rfl) ?_
                refine W.ret ?_
                refine bodyQ.r1 (v := .bool _) Try.results8 rfl ?_
                -- path FFFFLFF
                exact ⟨rfl, h.to⟩

end Go.Proofs.Ytlahgihjjabgmaa
