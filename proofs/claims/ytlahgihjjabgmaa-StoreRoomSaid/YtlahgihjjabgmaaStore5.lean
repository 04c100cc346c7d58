/-
  The laws of a store. Lines of walks printed by a program of the prover's.
-/
import Derived.Test.YtlahgihjjabgmaaStore4
import Derived.Test.YtlahgihjjabgmaaRingV
namespace Go.Proofs.Ytlahgihjjabgmaa
open Go Go.Sl Go.Sl.ByM Go.Sl.DkM Go.Sl.TwM Go.Sl.RgM Go.Sl.StM
set_option linter.unusedVariables false
set_option linter.unusedSimpArgs false
set_option maxHeartbeats 1000000
set_option maxRecDepth 8000
variable {W0 w : World} {L F : List HProp}

theorem sentry_case {bs b bt br c i : Nat} {hd : Hd} {snap : List UInt8} {ll : List (List UInt8)} {n : Nat} {bb : List UInt8} (hbs : hd.base = c) (hc : c ≤ n) (hn : n ≤ 1000) (hi : i < n) (hb : ll[i]? = some bb) (hbl : bb.length ≤ 2048) (h : On W0 (StoreP 150 bs b bt br hd snap ((rowsE ll n).drop c) :: L) w) : Calls Try.prog 62 #[.pointer (some ⟨bs, 0, none⟩), .int .u64 ((i + 1 : Nat) : Int)] w (Ret fun v w' => (c ≤ i ∧ ∃ a, v = .tuple #[.agg #[.int .u64 ((i + 1 : Nat) : Int), .int .u64 ((i * 3 : Nat) : Int), .slice a bb.length bb.length], .bool true] ∧ On W0 (OwnB (.slice a bb.length bb.length) bb :: StoreP 150 bs b bt br hd snap ((rowsE ll n).drop c) :: L) w') ∨ (i < c ∧ v = .tuple #[.agg #[.int .u64 0, .int .u64 0, .slice none 0 0], .bool false] ∧ On W0 (StoreP 150 bs b bt br hd snap ((rowsE ll n).drop c) :: L) w')) := by
  have hlen : ((rowsE ll n).drop c).length = n - c := by rw [List.length_drop, rowsE_length]
  rcases Nat.lt_or_ge i c with hic | hic
  · refine (sentry_no (by omega) h).mono fun e w' he => ?_
    obtain ⟨v, he, hv, h⟩ := he
    exact ⟨v, he, .inr ⟨hic, hv, h⟩⟩
  · obtain ⟨k, rfl⟩ : ∃ k, i = c + k := ⟨i - c, by omega⟩
    have hg := rowsE_get hb hi
    refine (sentry_ok (k := k) (i := c + k + 1) hg (by omega) (by omega) (by omega) (by show bb.length ≤ 2048; exact hbl) h).mono fun e w' he => ?_
    obtain ⟨v, he, a, hv, h⟩ := he
    exact ⟨v, he, .inl ⟨hic, a, hv, h⟩⟩

theorem srows_ok {cut : Int} {a0 : Option Addr} {c0 : Nat} {l : List BX} (h : On W0 F w) (C : Gives F (Cells 1 (.slice a0 l.length c0) l.length (l.map BX.v))) (B : ∀ x ∈ l, Gives F (Bytes x.v x.b)) : Calls Try.prog 14 #[.slice a0 l.length c0, .int .i64 cut] w (Ret fun v w' => v = .bool true ∧ On W0 F w') := by
  refine enter Try.func14 rfl Try.ntmps14 rfl ?_
  refine W.seq ?_
  refine W.region ?_
  refine WL.val run_assign rfl rfl ?_
  refine WL.nil ?_
  refine W.seq ?_
  refine W.seq ?_
  refine W.region ?_
  refine WL.eff (eff_call Try.call53 (sknown_ok h)) rfl rfl ?_
  rintro _ w ⟨rfl, h⟩
  refine WL.val (run_not rfl) rfl rfl ?_
  refine WL.nil ?_
  refine W.condF rfl ?_
  refine W.skip ?_
  refine W.seq ?_
  refine W.seq ?_
  refine W.region ?_
  refine WL.val run_move rfl rfl ?_
  refine WL.val (run_lenSlice Try.underlying23 rfl) rfl rfl ?_
  refine WL.dec (run_gtr rfl rfl) rfl rfl (fun c21 => ?_) (fun c21 => ?_)
  · skip
    refine WL.val run_move rfl rfl ?_
    refine WL.skip rfl rfl ?_
    refine WL.skip rfl rfl ?_
    refine WL.val (run_pickT rfl) rfl rfl ?_
    refine WL.val run_move rfl rfl ?_
    refine WL.skip rfl rfl ?_
    refine WL.skip rfl rfl ?_
    refine WL.skip rfl rfl ?_
    refine WL.skip rfl rfl ?_
    refine WL.val (run_pickT rfl) rfl rfl ?_
    refine WL.nil ?_
    refine W.condT rfl ?_
    refine W.seq ?_
    refine W.region ?_
    refine WL.val run_assign rfl rfl ?_
    refine WL.nil ?_
    refine W.ret ?_
    refine bodyQ.r1 (v := .bool _) Try.results14 rfl ?_
    -- path T
    exact ⟨rfl, h.to⟩
  · skip
    refine WL.val run_move rfl rfl ?_
    refine WL.val run_move rfl rfl ?_
    refine WL.dec (run_lss rfl rfl) rfl rfl (fun c24 => ?_) (fun c24 => ?_)
    · skip
      refine WL.val (run_pickF rfl) rfl rfl ?_
      refine WL.val run_move rfl rfl ?_
      refine WL.skip rfl rfl ?_
      refine WL.skip rfl rfl ?_
      refine WL.skip rfl rfl ?_
      refine WL.skip rfl rfl ?_
      refine WL.val (run_pickT rfl) rfl rfl ?_
      refine WL.nil ?_
      refine W.condT rfl ?_
      refine W.seq ?_
      refine W.region ?_
      refine WL.val run_assign rfl rfl ?_
      refine WL.nil ?_
      refine W.ret ?_
      refine bodyQ.r1 (v := .bool _) Try.results14 rfl ?_
      -- path FT
      exact ⟨rfl, h.to⟩
    · skip
      refine WL.val (run_pickF rfl) rfl rfl ?_
      refine WL.val run_move rfl rfl ?_
      refine WL.val run_move rfl rfl ?_
      refine WL.val run_move rfl rfl ?_
      refine WL.val (run_lenSlice Try.underlying23 rfl) rfl rfl ?_
      refine WL.val (run_gtr rfl rfl) rfl rfl ?_
      refine WL.val (run_pickF rfl) rfl rfl ?_
      refine WL.nil ?_
      refine W.condIf rfl (fun c7 => ?_) (fun c7 => ?_)
      · skip
        refine W.seq ?_
        refine W.region ?_
        refine WL.val run_assign rfl rfl ?_
        refine WL.nil ?_
        refine W.ret ?_
        refine bodyQ.r1 (v := .bool _) Try.results14 rfl ?_
        -- path FFT
        exact ⟨rfl, h.to⟩
      · skip
        refine W.skip ?_
        refine W.seq ?_
        have hc0 := Int.eq_ofNat_of_zero_le (show 0 ≤ cut by omega)
        obtain ⟨c, rfl⟩ := hc0
        have hl40 : l.length ≤ 40 := by omega
        have hcl : c ≤ l.length := by omega
        have hmx := maxLen_eq
        have hrl := rowsE_length (l.map BX.b)
        refine W.region ?_
        refine WL.eff (eff_call Try.call54 (least_ok h)) rfl rfl ?_
        rintro _ w ⟨rfl, h⟩
        refine WL.eff (eff_call Try.call16 (new_ok h)) rfl rfl ?_
        rintro _ w hv
        rcases hv with ⟨_, _, b, rfl, h⟩ | ⟨hno, _, _⟩
        rotate_left
        · exact absurd ⟨by decide, by decide⟩ hno
        refine WL.val run_move rfl rfl ?_
        refine WL.val (run_extract rfl rfl) rfl rfl ?_
        refine WL.val (run_extract rfl rfl) rfl rfl ?_
        refine WL.val run_assign rfl rfl ?_
        refine WL.val run_assign rfl rfl ?_
        refine WL.nil ?_
        refine W.seq ?_
        refine W.region ?_
        refine WL.val run_move rfl rfl ?_
        refine WL.eff (eff_call Try.call55 (sformat_ok (d := newD 354) (fun k => rfl) (newLive 354) rfl (by decide) h)) rfl rfl ?_
        rintro _ w ⟨rfl, d1, l1, n1, c1, T1, bl1, h⟩
        have c1 : d1.calls = 3 := c1
        refine WL.nil ?_
        refine W.seq ?_
        refine W.region ?_
        refine WL.val run_move rfl rfl ?_
        refine WL.eff (eff_call Try.call56 (sfirst l1 n1 T1 bl1 (by omega) h)) rfl rfl ?_
        rintro _ w ⟨bs, bt, br, d2, rfl, S2, c2, h⟩
        refine WL.val run_move rfl rfl ?_
        refine WL.val (run_extract rfl rfl) rfl rfl ?_
        refine WL.val (run_extract rfl rfl) rfl rfl ?_
        refine WL.val run_assign rfl rfl ?_
        refine WL.val run_assign rfl rfl ?_
        refine WL.nil ?_
        refine W.seq ?_
        refine W.seq ?_
        refine W.region ?_
        refine WL.val run_assign rfl rfl ?_
        refine WL.nil ?_
        refine W.block ?_
        refine W.loop (fun (i : Nat) env w => i ≤ l.length ∧ ∃ (j : Env) (g : Rg) (d : Dk), env = mkE j [(0, .slice a0 l.length c0), (1, .int .i64 (c : Int)), (5, .pointer (some ⟨b, 0, none⟩)), (7, .pointer (some ⟨bs, 0, none⟩)), (9, .int .i64 (i : Nat))] ∧ SI d hd1 2 [] (rowsE (l.map BX.b) i) g ∧ usedB ((rowsE (l.map BX.b) i).map enB) ≤ 2 * i ∧ d.calls ≤ 10 + 6 * (i : Nat) ∧ (∀ (k : Nat) (x : BX), k < i → l[k]? = some x → x.b.length ≤ 500) ∧ On W0 (StoreP 150 bs b bt br hd1 [] (rowsE (l.map BX.b) i) :: TwinP 126 bt b 0 2 (headB hd1) :: RingP 130 br b g :: DiskP 106 110 b d :: F) w) (fun i => l.length - i) (0) ?_ ?_
        · have h0 : On W0 (StoreP 150 bs b bt br hd1 [] [] :: TwinP 126 bt b 0 2 (headB hd1) :: RingP 130 br b (g0R 98 256 4294967296 0 2) :: DiskP 106 110 b d2 :: F) w := h.to
          exact ⟨Nat.zero_le _, _, (g0R 98 256 4294967296 0 2), d2, mkE_of ⟨rfl, rfl, rfl, rfl, rfl, trivial⟩, S2, Nat.zero_le _, by omega, fun k x hh => by omega, h0⟩
        · clear h S2
          rintro i env w ⟨hi, j, g, d, rfl, S, hu, hcd, hfew, h⟩
          have hei := hrl i
          refine W.seq ?_
          refine W.seq ?_
          refine W.region ?_
          refine WL.val run_move rfl rfl ?_
          refine WL.val run_move rfl rfl ?_
          refine WL.val (run_lenSlice Try.underlying23 rfl) rfl rfl ?_
          refine WL.val (run_lss rfl rfl) rfl rfl ?_
          refine WL.nil ?_
          refine W.condIf rfl (fun c18 => ?_) (fun c18 => ?_)
          · skip
            refine W.skip ?_
            refine W.seq ?_
            refine W.block ?_
            refine W.seq ?_
            refine W.seq ?_
            have hi2 : i < l.length := by omega
            have ob_ : ∃ x, l[i]? = some x := ⟨l[i]'hi2, List.getElem?_eq_getElem _⟩
            obtain ⟨x, hx⟩ := ob_
            have hxB : Gives F (Bytes (.slice x.1 x.2.2.length x.2.1) x.2.2) := B x (List.mem_of_getElem? hx)
            have ob_ := Cells.addr (h.readsTo C) (by omega)
            obtain ⟨b0, o0, ha0⟩ := ob_
            subst ha0
            refine W.region ?_
            refine WL.val run_move rfl rfl ?_
            refine WL.val run_move rfl rfl ?_
            refine WL.val (run_indexAddr Try.underlying23 Try.sizeOf22 rfl rfl (by omega) (by omega)) rfl rfl ?_
            refine WL.val (run_load1 Try.isAgg22 rfl ((h.readsTo C).elem (i := i) (vs := [.slice x.1 x.2.2.length x.2.1]) (by omega) (row_v hx) 0 _ rfl)) rfl rfl ?_
            refine WL.val (run_lenSlice Try.underlying22 rfl) rfl rfl ?_
            refine WL.val (run_gtr rfl rfl) rfl rfl ?_
            refine WL.nil ?_
            refine W.condIf rfl (fun c23 => ?_) (fun c23 => ?_)
            · skip
              refine W.seq ?_
              refine W.region ?_
              refine WL.val run_assign rfl rfl ?_
              refine WL.nil ?_
              refine W.ret ?_
              refine bodyQ.r1 (v := .bool _) Try.results14 rfl ?_
              -- path FFFLTT
              exact ⟨rfl, h.to⟩
            · skip
              refine W.skip ?_
              refine W.seq ?_
              have hxl : x.b.length ≤ 500 := by show x.2.2.length ≤ 500; omega
              refine W.region ?_
              refine WL.val run_move rfl rfl ?_
              refine WL.val run_move rfl rfl ?_
              refine WL.val (run_addN (m := i) (n := 1) rfl rfl (by omega)) rfl rfl ?_
              refine WL.val (run_convIn Try.underlying3 Try.underlying40 rfl (by show (0 : Int) ≤ _; omega) (by show _ ≤ (18446744073709551615 : Int); omega)) rfl rfl ?_
              refine WL.val run_move rfl rfl ?_
              refine WL.val (run_mulN (m := i) (n := 3) rfl rfl (by omega)) rfl rfl ?_
              refine WL.val (run_convIn Try.underlying3 Try.underlying40 rfl (by show (0 : Int) ≤ _; omega) (by show _ ≤ (18446744073709551615 : Int); omega)) rfl rfl ?_
              refine WL.val run_move rfl rfl ?_
              refine WL.val run_move rfl rfl ?_
              refine WL.val (run_indexAddr Try.underlying23 Try.sizeOf22 rfl rfl (by omega) (by omega)) rfl rfl ?_
              refine WL.val (run_load1 Try.isAgg22 rfl ((h.readsTo C).elem (i := i) (vs := [.slice x.1 x.2.2.length x.2.1]) (by omega) (row_v hx) 0 _ rfl)) rfl rfl ?_
              refine WL.val (run_buildS (pl := [(0, 1), (1, 1), (2, 1)]) (out := [.int .u64 _, .int .u64 _, .slice _ _ _]) Try.underlying96 Try.zeroValue96 (fun w => by kernel_rfl) rfl (⟨⟨_, _, rfl, rfl, by decide⟩, ⟨⟨_, _, rfl, rfl, by decide⟩, ⟨⟨_, _, rfl, rfl, by decide⟩, trivial⟩⟩⟩) rfl) rfl rfl ?_
              refine WL.eff (eff_call Try.call57 (sapp (bs := bs) (bt := bt) (br := br) (i := i) (idx := i + 1) (ep := i * 3) (bb := x.b) (tn := 2) (hd := hd1) (snap := []) (es := (rowsE (l.map BX.b) i)) (g := g) (d := d) S (by rw [hei]; show i + 1 = 0 + 1 + i; omega) (by omega) (by omega) hu (by omega) (by rw [hei]; show 0 + i < _; omega) (by rw [hei]; show 4294967296 + i < _; omega) (by omega) (((h.fetch (DiskP 106 110 b d)).fetch (RingP 130 br b g)).fetch (StoreP 150 bs b bt br hd1 [] (rowsE (l.map BX.b) i))) (Gives.to hxB))) rfl rfl ?_
              rintro _ w ⟨rfl, d3, S3, hu3, c3, h⟩
              refine WL.val (run_neqF rfl rfl (rfl)) rfl rfl ?_
              refine WL.nil ?_
              refine W.condF rfl ?_
              refine W.skip ?_
              refine W.region ?_
              refine WL.val run_move rfl rfl ?_
              refine WL.val (run_incN rfl rfl (by omega)) rfl rfl ?_
              refine WL.val run_assign rfl rfl ?_
              refine WL.nil ?_
              -- round, path FFFLTF
              have hx2 : (l.map BX.b)[i]? = some x.b := by rw [List.getElem?_map, hx]; rfl
              rw [← rowsE_succ hx2] at S3 hu3 h
              refine ⟨i + 1, ⟨by omega, _, _, d3, mkE_of ⟨rfl, rfl, rfl, rfl, rfl, trivial⟩, S3, hu3, by omega, ?_, h.to⟩, by show l.length - (i + 1) < l.length - i; omega⟩
              intro k y hk hy
              have ob_ := Nat.lt_or_ge k i
              rcases ob_ with hh | hh
              · exact hfew k y hh hy
              · have ob_ : k = i := by omega
                obtain rfl := ob_
                rw [hx] at hy
                cases hy
                exact hxl
          · skip
            refine W.exit ?_
            refine W.seq ?_
            refine W.seq ?_
            have ob_ : i = l.length := by omega
            obtain rfl := ob_
            refine W.region ?_
            refine WL.val run_move rfl rfl ?_
            refine WL.val run_move rfl rfl ?_
            refine WL.val (run_convIn Try.underlying3 Try.underlying40 rfl (by show (0 : Int) ≤ _; omega) (by show _ ≤ (18446744073709551615 : Int); omega)) rfl rfl ?_
            refine WL.eff (eff_mkRow (out := [.int .u8 _, .int .u8 _, .int .u8 _, .int .u8 _]) h Try.underlying22 Try.sizeOf5 Try.zeroValue5 rfl (by decide) rfl rfl rfl) rfl rfl ?_
            rintro _ w ⟨b73, rfl, h⟩
            refine WL.eff (eff_ofString h rfl (by omega) Try.underlying22 Try.underlying5) rfl rfl ?_
            rintro _ w ⟨rfl, h⟩
            refine WL.eff (eff_call Try.call59 (scomp (bs := bs) (bt := bt) (br := br) (tn := 2) (k := c) (idx := c) (d := d) (hd := hd1) (snap := []) (sn := [115, 110, 97, 112]) (es := (rowsE (l.map BX.b) l.length)) (g := g) (by show 0 + c = c; omega) S (by rw [hei]; exact hcl) (by decide) (by rw [hei]; show 0 + l.length < _; omega) (by rw [hei]; show 4294967296 + l.length < _; omega) (by decide) (by omega) ((((h.fetch (DiskP 106 110 b d)).fetch (RingP 130 br b g)).fetch (TwinP 126 bt b 0 2 (headB hd1))).fetch (StoreP 150 bs b bt br hd1 [] (rowsE (l.map BX.b) l.length))) (Gives.ownO (v := .slice (some ⟨b73, 0, none⟩) 4 4)))) rfl rfl ?_
            rintro _ w ⟨rfl, d4, S4, c4, h⟩
            refine WL.val (run_neqF rfl rfl (rfl)) rfl rfl ?_
            refine WL.nil ?_
            refine W.condF rfl ?_
            refine W.skip ?_
            refine W.seq ?_
            refine W.region ?_
            refine WL.val run_move rfl rfl ?_
            refine WL.eff (eff_call Try.call19 (crashP (d := d4) (picks := []) (ap := none) (cp := 0) (by omega) (h.fetch (DiskP 106 110 b d4)) Gives.nilC)) rfl rfl ?_
            rintro _ w h
            refine WL.nil ?_
            refine W.seq ?_
            refine W.region ?_
            refine WL.val run_move rfl rfl ?_
            refine WL.eff (eff_call Try.call20 (don_ok (d := (crashD d4 [])) h)) rfl rfl ?_
            rintro _ w h
            have h : On W0 (DiskP 106 110 b (onD (crashD d4 [])) :: _) w := h
            rw [flat_on S4.live S4.flat] at h
            have hdl : ((rowsE (l.map BX.b) l.length).drop c).length = l.length - c := by rw [List.length_drop, hei]
            refine WL.nil ?_
            refine W.seq ?_
            refine W.region ?_
            refine WL.val run_move rfl rfl ?_
            refine WL.eff (eff_call Try.call56 (sreopen S4 rfl (by rw [hdl]; show 0 + c + (l.length - c) < _; omega) (by show 4294967296 + c ≤ _; omega) (by decide) (by omega) h)) rfl rfl ?_
            rintro _ w ⟨bs2, bt2, br2, rfl, h⟩
            have hrb : ({ (headC hd1 c [115, 110, 97, 112] (rowsE (l.map BX.b) l.length)) with life := (headC hd1 c [115, 110, 97, 112] (rowsE (l.map BX.b) l.length)).life + 1 } : Hd).base = c := by show 0 + c = c; omega
            have h : On W0 (StoreP 150 bs2 b bt2 br2 ({ (headC hd1 c [115, 110, 97, 112] (rowsE (l.map BX.b) l.length)) with life := (headC hd1 c [115, 110, 97, 112] (rowsE (l.map BX.b) l.length)).life + 1 }) [115, 110, 97, 112] ((rowsE (l.map BX.b) l.length).drop c) :: _) w := h
            generalize ({ (headC hd1 c [115, 110, 97, 112] (rowsE (l.map BX.b) l.length)) with life := (headC hd1 c [115, 110, 97, 112] (rowsE (l.map BX.b) l.length)).life + 1 } : Hd) = hr at h hrb
            refine WL.val run_move rfl rfl ?_
            refine WL.val (run_extract rfl rfl) rfl rfl ?_
            refine WL.val (run_extract rfl rfl) rfl rfl ?_
            refine WL.val run_assign rfl rfl ?_
            refine WL.val run_assign rfl rfl ?_
            refine WL.nil ?_
            refine W.seq ?_
            refine W.seq ?_
            refine W.region ?_
            refine WL.val run_move rfl rfl ?_
            refine WL.val (run_neqF rfl rfl (rfl)) rfl rfl ?_
            refine WL.val run_move rfl rfl ?_
            refine WL.val run_move rfl rfl ?_
            refine WL.val (run_eqlPtrNil Try.underlying90 rfl rfl) rfl rfl ?_
            refine WL.val (run_pickF rfl) rfl rfl ?_
            refine WL.val run_move rfl rfl ?_
            refine WL.val run_move rfl rfl ?_
            refine WL.eff (eff_call Try.call61 (slastP_ok (by rw [hrb, hdl]; omega) (by rw [hdl]; omega) h)) rfl rfl ?_
            rintro v94 w ⟨hv94, h⟩
            rw [hrb, hdl, show c + (l.length - c) = l.length by omega] at hv94
            subst hv94
            refine WL.val run_move rfl rfl ?_
            refine WL.val (run_lenSlice Try.underlying23 rfl) rfl rfl ?_
            refine WL.val (run_convIn Try.underlying3 Try.underlying40 rfl (by show (0 : Int) ≤ _; omega) (by show _ ≤ (18446744073709551615 : Int); omega)) rfl rfl ?_
            refine WL.val (run_neqF rfl rfl (rfl)) rfl rfl ?_
            refine WL.val (run_pickF rfl) rfl rfl ?_
            refine WL.nil ?_
            refine W.condF rfl ?_
            refine W.skip ?_
            refine W.seq ?_
            refine W.seq ?_
            refine W.region ?_
            refine WL.val run_assign rfl rfl ?_
            refine WL.nil ?_
            refine W.block ?_
            refine W.loop (fun (i : Nat) env w => i ≤ l.length ∧ ∃ (j : Env), env = mkE j [(0, .slice a0 l.length c0), (1, .int .i64 (c : Int)), (10, .pointer (some ⟨bs2, 0, none⟩)), (12, .int .i64 (i : Nat))] ∧ On W0 (StoreP 150 bs2 b bt2 br2 hr [115, 110, 97, 112] ((rowsE (l.map BX.b) l.length).drop c) :: F) w) (fun i => l.length - i) (0) ?_ ?_
            · exact ⟨Nat.zero_le _, _, mkE_of ⟨rfl, rfl, rfl, rfl, trivial⟩, h.to⟩
            · clear h S S4
              rintro i env w ⟨hi, j, rfl, h⟩
              refine W.seq ?_
              refine W.seq ?_
              refine W.region ?_
              refine WL.val run_move rfl rfl ?_
              refine WL.val run_move rfl rfl ?_
              refine WL.val (run_lenSlice Try.underlying23 rfl) rfl rfl ?_
              refine WL.val (run_lss rfl rfl) rfl rfl ?_
              refine WL.nil ?_
              refine W.condIf rfl (fun c50 => ?_) (fun c50 => ?_)
              · skip
                refine W.skip ?_
                refine W.seq ?_
                refine W.block ?_
                refine W.seq ?_
                have hi2 : i < l.length := by omega
                have ob_ : ∃ x, l[i]? = some x := ⟨l[i]'hi2, List.getElem?_eq_getElem _⟩
                obtain ⟨x, hx⟩ := ob_
                have hxB : Gives F (Bytes (.slice x.1 x.2.2.length x.2.1) x.2.2) := B x (List.mem_of_getElem? hx)
                have hxl := hfew i x hi2 hx
                have hx2 : (l.map BX.b)[i]? = some x.b := by rw [List.getElem?_map, hx]; rfl
                have ob_ := Cells.addr (h.readsTo C) (by omega)
                obtain ⟨b0, o0, ha0⟩ := ob_
                subst ha0
                refine W.region ?_
                refine WL.val run_move rfl rfl ?_
                refine WL.val run_move rfl rfl ?_
                refine WL.val (run_addN (m := i) (n := 1) rfl rfl (by omega)) rfl rfl ?_
                refine WL.val (run_convIn Try.underlying3 Try.underlying40 rfl (by show (0 : Int) ≤ _; omega) (by show _ ≤ (18446744073709551615 : Int); omega)) rfl rfl ?_
                refine WL.eff (eff_call Try.call62 (sentry_case (bs := bs2) (bt := bt2) (br := br2) (c := c) (n := l.length) (ll := (l.map BX.b)) (bb := x.b) hrb hcl (by omega) hi2 hx2 (by omega) h)) rfl rfl ?_
                rintro _ w hg
                rcases hg with ⟨hci, a111, rfl, h⟩ | ⟨hci, rfl, h⟩
                · skip
                  refine WL.val run_move rfl rfl ?_
                  refine WL.val (run_extract rfl rfl) rfl rfl ?_
                  refine WL.val (run_extract rfl rfl) rfl rfl ?_
                  refine WL.eff (eff_alloc h Try.zeroValue96 rfl) rfl rfl ?_
                  rintro _ w ⟨b13, rfl, h⟩
                  refine WL.eff (eff_storeN (vs := [.int .u64 _, .int .u64 _, .slice _ _ _]) h Try.sizeOf96 rfl rfl rfl rfl rfl (fun k _ _ => free0 k)) rfl rfl ?_
                  rintro _ w h
                  try simp only [splice, List.take_zero, List.take_succ_cons, List.take_nil, List.drop_succ_cons, List.drop_zero, List.drop_nil, List.nil_append, List.cons_append, List.append_nil, List.length_cons, List.length_nil, Nat.zero_add, Nat.reduceAdd] at h
                  refine WL.val run_assign rfl rfl ?_
                  refine WL.nil ?_
                  refine W.seq ?_
                  refine W.draw Try.follows h (fun w h => ?_)
                  refine WT.pure 0 rfl (by kernel_rfl) (fun w' => run_move) rfl rfl ?_
                  refine WT.pure 1 rfl (by kernel_rfl) (fun w' => run_move) rfl rfl ?_
                  refine WT.pure 2 rfl (by kernel_rfl) (fun w' => run_move) rfl rfl ?_
                  refine WT.pure 3 rfl (by kernel_rfl) (fun w' => run_geqT rfl rfl (by omega)) rfl rfl ?_
                  refine WT.pure 4 rfl (by kernel_rfl) (fun w' => (run_neqBoolF Try.underlying4 rfl rfl rfl)) rfl rfl ?_
                  refine WT.pure 5 rfl (by kernel_rfl) (fun w' => run_move) rfl rfl ?_
                  refine WT.pure 6 rfl (by kernel_rfl) (fun w' => run_move) rfl rfl ?_
                  refine WT.pure 7 rfl (by kernel_rfl) (fun w' => run_move) rfl rfl ?_
                  refine WT.pure 8 rfl (by kernel_rfl) (fun w' => (run_fieldAddr 2 Try.underlying96 rfl Try.sizeOf22 rfl rfl)) rfl rfl ?_
                  refine WT.load1 9 rfl (by kernel_rfl) Try.isAgg22 rfl (h.cellB rfl) rfl rfl ?_
                  refine WT.take 10 (fun w => Bytes (.slice a111 x.b.length x.b.length) (x.b) (hp w)) rfl (by kernel_rfl) rfl rfl (h.cellsO (v := .slice a111 x.b.length x.b.length)) (fun w' hC => run_bytesStr Try.underlying22 Try.underlying5 Try.underlying9 rfl hC) ?_
                  refine WT.pure 11 rfl (by kernel_rfl) (fun w' => run_move) rfl rfl ?_
                  refine WT.pure 12 rfl (by kernel_rfl) (fun w' => run_move) rfl rfl ?_
                  refine WT.pure 13 rfl (by kernel_rfl) (fun w' => (run_indexAddr Try.underlying23 Try.sizeOf22 rfl rfl (by omega) (by omega))) rfl rfl ?_
                  refine WT.load1 14 rfl (by kernel_rfl) Try.isAgg22 rfl ((h.readsTo C).elem (i := i) (vs := [.slice x.1 x.2.2.length x.2.1]) (by omega) (row_v hx) 0 _ rfl) rfl rfl ?_
                  refine WT.take 15 (fun w => Bytes (.slice x.1 x.2.2.length x.2.1) (x.2.2) (hp w)) rfl (by kernel_rfl) rfl rfl (h.readsTo hxB) (fun w' hC => run_bytesStr Try.underlying22 Try.underlying5 Try.underlying9 rfl hC) ?_
                  refine WT.pure 16 rfl (by kernel_rfl) (fun w' => (run_neqStrF rfl rfl rfl)) rfl rfl ?_
                  refine WT.pure 17 rfl (by kernel_rfl) (fun w' => run_move) rfl rfl ?_
                  refine WT.pure 18 rfl (by kernel_rfl) (fun w' => (run_fieldAddr 1 Try.underlying96 rfl Try.sizeOf40 rfl rfl)) rfl rfl ?_
                  refine WT.load1 19 rfl (by kernel_rfl) Try.isAgg40 rfl (h.cellB rfl) rfl rfl ?_
                  refine WT.pure 20 rfl (by kernel_rfl) (fun w' => run_move) rfl rfl ?_
                  refine WT.pure 21 rfl (by kernel_rfl) (fun w' => (run_mulN (m := i) (n := 3) rfl rfl (by omega))) rfl rfl ?_
                  refine WT.pure 22 rfl (by kernel_rfl) (fun w' => (run_convIn Try.underlying3 Try.underlying40 rfl (by show (0 : Int) ≤ _; omega) (by show _ ≤ (18446744073709551615 : Int); omega))) rfl rfl ?_
                  refine WT.pure 23 rfl (by kernel_rfl) (fun w' => run_neqF rfl rfl (rfl)) rfl rfl ?_
                  refine WT.pure 24 rfl (by kernel_rfl) (fun w' => (run_pickF rfl)) rfl rfl ?_
                  refine WT.pure 25 rfl (by kernel_rfl) (fun w' => (run_pickT rfl)) rfl rfl ?_
                  refine WT.pure 26 rfl (by kernel_rfl) (fun w' => (run_pickF rfl)) rfl rfl ?_
                  refine WT.done (by kernel_rfl) ?_
                  refine W.condF rfl ?_
                  refine W.skip ?_
                  refine W.region ?_
                  refine WL.val run_move rfl rfl ?_
                  refine WL.val (run_incN rfl rfl (by omega)) rfl rfl ?_
                  refine WL.val run_assign rfl rfl ?_
                  refine WL.nil ?_
                  -- round, path FFFLFLTT
                  exact ⟨i + 1, ⟨by omega, _, mkE_of ⟨rfl, rfl, rfl, rfl, trivial⟩, h.to⟩, by show l.length - (i + 1) < l.length - i; omega⟩
                · skip
                  refine WL.val run_move rfl rfl ?_
                  refine WL.val (run_extract rfl rfl) rfl rfl ?_
                  refine WL.val (run_extract rfl rfl) rfl rfl ?_
                  refine WL.eff (eff_alloc h Try.zeroValue96 rfl) rfl rfl ?_
                  rintro _ w ⟨b13, rfl, h⟩
                  refine WL.eff (eff_storeN (vs := [.int .u64 _, .int .u64 _, .slice _ _ _]) h Try.sizeOf96 rfl rfl rfl rfl rfl (fun k _ _ => free0 k)) rfl rfl ?_
                  rintro _ w h
                  try simp only [splice, List.take_zero, List.take_succ_cons, List.take_nil, List.drop_succ_cons, List.drop_zero, List.drop_nil, List.nil_append, List.cons_append, List.append_nil, List.length_cons, List.length_nil, Nat.zero_add, Nat.reduceAdd] at h
                  refine WL.val run_assign rfl rfl ?_
                  refine WL.nil ?_
                  refine W.seq ?_
                  refine W.draw Try.follows h (fun w h => ?_)
                  refine WT.pure 0 rfl (by kernel_rfl) (fun w' => run_move) rfl rfl ?_
                  refine WT.pure 1 rfl (by kernel_rfl) (fun w' => run_move) rfl rfl ?_
                  refine WT.pure 2 rfl (by kernel_rfl) (fun w' => run_move) rfl rfl ?_
                  refine WT.pure 3 rfl (by kernel_rfl) (fun w' => run_geqF rfl rfl (by omega)) rfl rfl ?_
                  refine WT.pure 4 rfl (by kernel_rfl) (fun w' => (run_neqBoolF Try.underlying4 rfl rfl rfl)) rfl rfl ?_
                  refine WT.pure 5 rfl (by kernel_rfl) (fun w' => run_move) rfl rfl ?_
                  refine WT.pure 6 rfl (by kernel_rfl) (fun w' => run_move) rfl rfl ?_
                  refine WT.pure 7 rfl (by kernel_rfl) (fun w' => run_move) rfl rfl ?_
                  refine WT.skip 8 rfl (by kernel_rfl) rfl rfl ?_
                  refine WT.skip 9 rfl (by kernel_rfl) rfl rfl ?_
                  refine WT.skip 10 rfl (by kernel_rfl) rfl rfl ?_
                  refine WT.skip 11 rfl (by kernel_rfl) rfl rfl ?_
                  refine WT.skip 12 rfl (by kernel_rfl) rfl rfl ?_
                  refine WT.skip 13 rfl (by kernel_rfl) rfl rfl ?_
                  refine WT.skip 14 rfl (by kernel_rfl) rfl rfl ?_
                  refine WT.skip 15 rfl (by kernel_rfl) rfl rfl ?_
                  refine WT.skip 16 rfl (by kernel_rfl) rfl rfl ?_
                  refine WT.skip 17 rfl (by kernel_rfl) rfl rfl ?_
                  refine WT.skip 18 rfl (by kernel_rfl) rfl rfl ?_
                  refine WT.skip 19 rfl (by kernel_rfl) rfl rfl ?_
                  refine WT.skip 20 rfl (by kernel_rfl) rfl rfl ?_
                  refine WT.skip 21 rfl (by kernel_rfl) rfl rfl ?_
                  refine WT.skip 22 rfl (by kernel_rfl) rfl rfl ?_
                  refine WT.skip 23 rfl (by kernel_rfl) rfl rfl ?_
                  refine WT.skip 24 rfl (by kernel_rfl) rfl rfl ?_
                  refine WT.pure 25 rfl (by kernel_rfl) (fun w' => (run_pickF rfl)) rfl rfl ?_
                  refine WT.pure 26 rfl (by kernel_rfl) (fun w' => (run_pickF rfl)) rfl rfl ?_
                  refine WT.done (by kernel_rfl) ?_
                  refine W.condF rfl ?_
                  refine W.skip ?_
                  refine W.region ?_
                  refine WL.val run_move rfl rfl ?_
                  refine WL.val (run_incN rfl rfl (by omega)) rfl rfl ?_
                  refine WL.val run_assign rfl rfl ?_
                  refine WL.nil ?_
                  -- round, path FFFLFLTF
                  exact ⟨i + 1, ⟨by omega, _, mkE_of ⟨rfl, rfl, rfl, rfl, trivial⟩, h.to⟩, by show l.length - (i + 1) < l.length - i; omega⟩
              · skip
                refine W.exit ?_
                refine W.seq ?_
                refine W.region ?_
                refine WL.val run_move rfl rfl ?_
                refine WL.eff (eff_call Try.call60 (sbase_ok (bs := bs2) (bt := bt2) (br := br2) (snap := [115, 110, 97, 112]) (by decide) h)) rfl rfl ?_
                rintro v143 w ⟨a143, hv143, h⟩
                rw [hrb] at hv143
                subst hv143
                refine WL.val run_move rfl rfl ?_
                refine WL.val (run_extract rfl rfl) rfl rfl ?_
                refine WL.val (run_extract rfl rfl) rfl rfl ?_
                refine WL.val run_assign rfl rfl ?_
                refine WL.val run_assign rfl rfl ?_
                refine WL.nil ?_
                refine W.seq ?_
                refine W.region ?_
                refine WL.val run_move rfl rfl ?_
                refine WL.val run_move rfl rfl ?_
                refine WL.val (run_convIn Try.underlying3 Try.underlying40 rfl (by show (0 : Int) ≤ _; omega) (by show _ ≤ (18446744073709551615 : Int); omega)) rfl rfl ?_
                refine WL.val (run_eqlT rfl rfl (rfl)) rfl rfl ?_
                refine WL.val run_move rfl rfl ?_
                refine WL.val run_move rfl rfl ?_
                refine WL.val (run_bytesStr Try.underlying22 Try.underlying5 Try.underlying9 rfl (h.cellsO (v := .slice a143 4 4))) rfl rfl ?_
                refine WL.val (run_eqlStrT rfl rfl (rfl)) rfl rfl ?_
                refine WL.val (run_pickT rfl) rfl rfl ?_
                refine WL.val run_assign rfl rfl ?_
                refine WL.nil ?_
                refine W.ret ?_
                refine bodyQ.r1 (v := .bool _) Try.results14 rfl ?_
                -- path FFFLFLF
                exact ⟨rfl, h.to⟩

theorem sroom_ok {rounds size snapN : Int} (h : On W0 F w) : Calls Try.prog 13 #[.int .i64 rounds, .int .i64 size, .int .i64 snapN] w (Ret fun v w' => v = .bool true ∧ On W0 F w') := by
  refine enter Try.func13 rfl Try.ntmps13 rfl ?_
  refine W.seq ?_
  refine W.region ?_
  refine WL.val run_assign rfl rfl ?_
  refine WL.nil ?_
  refine W.seq ?_
  refine W.seq ?_
  refine W.region ?_
  refine WL.eff (eff_call Try.call53 (sknown_ok h)) rfl rfl ?_
  rintro _ w ⟨rfl, h⟩
  refine WL.val (run_not rfl) rfl rfl ?_
  refine WL.nil ?_
  refine W.condF rfl ?_
  refine W.skip ?_
  refine W.seq ?_
  refine W.seq ?_
  refine W.region ?_
  refine WL.val run_move rfl rfl ?_
  refine WL.dec (run_lss rfl rfl) rfl rfl (fun c21 => ?_) (fun c21 => ?_)
  · skip
    refine WL.val run_move rfl rfl ?_
    refine WL.skip rfl rfl ?_
    refine WL.skip rfl rfl ?_
    refine WL.val (run_pickT rfl) rfl rfl ?_
    refine WL.val run_move rfl rfl ?_
    refine WL.skip rfl rfl ?_
    refine WL.skip rfl rfl ?_
    refine WL.val (run_pickT rfl) rfl rfl ?_
    refine WL.val run_move rfl rfl ?_
    refine WL.skip rfl rfl ?_
    refine WL.skip rfl rfl ?_
    refine WL.val (run_pickT rfl) rfl rfl ?_
    refine WL.val run_move rfl rfl ?_
    refine WL.skip rfl rfl ?_
    refine WL.skip rfl rfl ?_
    refine WL.val (run_pickT rfl) rfl rfl ?_
    refine WL.val run_move rfl rfl ?_
    refine WL.skip rfl rfl ?_
    refine WL.skip rfl rfl ?_
    refine WL.val (run_pickT rfl) rfl rfl ?_
    refine WL.nil ?_
    refine W.condT rfl ?_
    refine W.seq ?_
    refine W.region ?_
    refine WL.val run_assign rfl rfl ?_
    refine WL.nil ?_
    refine W.ret ?_
    refine bodyQ.r1 (v := .bool _) Try.results13 rfl ?_
    -- path T
    exact ⟨rfl, h.to⟩
  · skip
    refine WL.val run_move rfl rfl ?_
    refine WL.val run_move rfl rfl ?_
    refine WL.dec (run_gtr rfl rfl) rfl rfl (fun c24 => ?_) (fun c24 => ?_)
    · skip
      refine WL.val (run_pickF rfl) rfl rfl ?_
      refine WL.val run_move rfl rfl ?_
      refine WL.skip rfl rfl ?_
      refine WL.skip rfl rfl ?_
      refine WL.val (run_pickT rfl) rfl rfl ?_
      refine WL.val run_move rfl rfl ?_
      refine WL.skip rfl rfl ?_
      refine WL.skip rfl rfl ?_
      refine WL.val (run_pickT rfl) rfl rfl ?_
      refine WL.val run_move rfl rfl ?_
      refine WL.skip rfl rfl ?_
      refine WL.skip rfl rfl ?_
      refine WL.val (run_pickT rfl) rfl rfl ?_
      refine WL.val run_move rfl rfl ?_
      refine WL.skip rfl rfl ?_
      refine WL.skip rfl rfl ?_
      refine WL.val (run_pickT rfl) rfl rfl ?_
      refine WL.nil ?_
      refine W.condT rfl ?_
      refine W.seq ?_
      refine W.region ?_
      refine WL.val run_assign rfl rfl ?_
      refine WL.nil ?_
      refine W.ret ?_
      refine bodyQ.r1 (v := .bool _) Try.results13 rfl ?_
      -- path FT
      exact ⟨rfl, h.to⟩
    · skip
      refine WL.val (run_pickF rfl) rfl rfl ?_
      refine WL.val run_move rfl rfl ?_
      refine WL.val run_move rfl rfl ?_
      refine WL.dec (run_lss rfl rfl) rfl rfl (fun c28 => ?_) (fun c28 => ?_)
      · skip
        refine WL.val (run_pickF rfl) rfl rfl ?_
        refine WL.val run_move rfl rfl ?_
        refine WL.skip rfl rfl ?_
        refine WL.skip rfl rfl ?_
        refine WL.val (run_pickT rfl) rfl rfl ?_
        refine WL.val run_move rfl rfl ?_
        refine WL.skip rfl rfl ?_
        refine WL.skip rfl rfl ?_
        refine WL.val (run_pickT rfl) rfl rfl ?_
        refine WL.val run_move rfl rfl ?_
        refine WL.skip rfl rfl ?_
        refine WL.skip rfl rfl ?_
        refine WL.val (run_pickT rfl) rfl rfl ?_
        refine WL.nil ?_
        refine W.condT rfl ?_
        refine W.seq ?_
        refine W.region ?_
        refine WL.val run_assign rfl rfl ?_
        refine WL.nil ?_
        refine W.ret ?_
        refine bodyQ.r1 (v := .bool _) Try.results13 rfl ?_
        -- path FFT
        exact ⟨rfl, h.to⟩
      · skip
        refine WL.val (run_pickF rfl) rfl rfl ?_
        refine WL.val run_move rfl rfl ?_
        refine WL.val run_move rfl rfl ?_
        refine WL.dec (run_gtr rfl rfl) rfl rfl (fun c32 => ?_) (fun c32 => ?_)
        · skip
          refine WL.val (run_pickF rfl) rfl rfl ?_
          refine WL.val run_move rfl rfl ?_
          refine WL.skip rfl rfl ?_
          refine WL.skip rfl rfl ?_
          refine WL.val (run_pickT rfl) rfl rfl ?_
          refine WL.val run_move rfl rfl ?_
          refine WL.skip rfl rfl ?_
          refine WL.skip rfl rfl ?_
          refine WL.val (run_pickT rfl) rfl rfl ?_
          refine WL.nil ?_
          refine W.condT rfl ?_
          refine W.seq ?_
          refine W.region ?_
          refine WL.val run_assign rfl rfl ?_
          refine WL.nil ?_
          refine W.ret ?_
          refine bodyQ.r1 (v := .bool _) Try.results13 rfl ?_
          -- path FFFT
          exact ⟨rfl, h.to⟩
        · skip
          refine WL.val (run_pickF rfl) rfl rfl ?_
          refine WL.val run_move rfl rfl ?_
          refine WL.val run_move rfl rfl ?_
          refine WL.dec (run_lss rfl rfl) rfl rfl (fun c36 => ?_) (fun c36 => ?_)
          · skip
            refine WL.val (run_pickF rfl) rfl rfl ?_
            refine WL.val run_move rfl rfl ?_
            refine WL.skip rfl rfl ?_
            refine WL.skip rfl rfl ?_
            refine WL.val (run_pickT rfl) rfl rfl ?_
            refine WL.nil ?_
            refine W.condT rfl ?_
            refine W.seq ?_
            refine W.region ?_
            refine WL.val run_assign rfl rfl ?_
            refine WL.nil ?_
            refine W.ret ?_
            refine bodyQ.r1 (v := .bool _) Try.results13 rfl ?_
            -- path FFFFT
            exact ⟨rfl, h.to⟩
          · skip
            refine WL.val (run_pickF rfl) rfl rfl ?_
            refine WL.val run_move rfl rfl ?_
            refine WL.val run_move rfl rfl ?_
            refine WL.val (run_gtr rfl rfl) rfl rfl ?_
            refine WL.val (run_pickF rfl) rfl rfl ?_
            refine WL.nil ?_
            refine W.condIf rfl (fun c7 => ?_) (fun c7 => ?_)
            · skip
              refine W.seq ?_
              refine W.region ?_
              refine WL.val run_assign rfl rfl ?_
              refine WL.nil ?_
              refine W.ret ?_
              refine bodyQ.r1 (v := .bool _) Try.results13 rfl ?_
              -- path FFFFFT
              exact ⟨rfl, h.to⟩
            · skip
              refine W.skip ?_
              refine W.seq ?_
              have hc0 := Int.eq_ofNat_of_zero_le (show 0 ≤ rounds by omega)
              obtain ⟨R0, rfl⟩ := hc0
              have hc1 := Int.eq_ofNat_of_zero_le (show 0 ≤ size by omega)
              obtain ⟨Z, rfl⟩ := hc1
              have hc2 := Int.eq_ofNat_of_zero_le (show 0 ≤ snapN by omega)
              obtain ⟨N, rfl⟩ := hc2
              have hR4 : R0 ≤ 4 := by omega
              have hR1 : 1 ≤ R0 := by omega
              have hZ : Z ≤ 512 := by omega
              have hN : N ≤ 24576 := by omega
              refine W.region ?_
              refine WL.eff (eff_call Try.call54 (least_ok h)) rfl rfl ?_
              rintro _ w ⟨rfl, h⟩
              refine WL.eff (eff_call Try.call16 (new_ok h)) rfl rfl ?_
              rintro _ w hv
              rcases hv with ⟨_, _, b, rfl, h⟩ | ⟨hno, _, _⟩
              rotate_left
              · exact absurd ⟨by decide, by decide⟩ hno
              refine WL.val run_move rfl rfl ?_
              refine WL.val (run_extract rfl rfl) rfl rfl ?_
              refine WL.val (run_extract rfl rfl) rfl rfl ?_
              refine WL.val run_assign rfl rfl ?_
              refine WL.val run_assign rfl rfl ?_
              refine WL.nil ?_
              refine W.seq ?_
              refine W.region ?_
              refine WL.val run_move rfl rfl ?_
              refine WL.eff (eff_call Try.call55 (sformat_ok (d := newD 354) (fun k => rfl) (newLive 354) rfl (by decide) h)) rfl rfl ?_
              rintro _ w ⟨rfl, d1, l1, n1, c1, T1, bl1, h⟩
              have c1 : d1.calls = 3 := c1
              refine WL.nil ?_
              refine W.seq ?_
              refine W.region ?_
              refine WL.val run_move rfl rfl ?_
              refine WL.eff (eff_call Try.call56 (sfirst l1 n1 T1 bl1 (by omega) h)) rfl rfl ?_
              rintro _ w ⟨bs, bt, br, d2, rfl, S2, c2, h⟩
              refine WL.val run_move rfl rfl ?_
              refine WL.val (run_extract rfl rfl) rfl rfl ?_
              refine WL.val (run_extract rfl rfl) rfl rfl ?_
              refine WL.val run_assign rfl rfl ?_
              refine WL.val run_assign rfl rfl ?_
              refine WL.nil ?_
              refine W.seq ?_
              refine W.region ?_
              refine WL.val run_assign rfl rfl ?_
              refine WL.nil ?_
              refine W.seq ?_
              refine W.seq ?_
              refine W.region ?_
              refine WL.val run_assign rfl rfl ?_
              refine WL.nil ?_
              refine W.block ?_
              refine W.loop (fun (k : Nat) env w => k ≤ R0 ∧ ∃ (j : Env) (hd : Hd) (tn : Nat) (snap : List UInt8) (g : Rg) (d : Dk), env = mkE j [(0, .int .i64 (R0 : Int)), (1, .int .i64 (Z : Int)), (2, .int .i64 (N : Int)), (7, .pointer (some ⟨b, 0, none⟩)), (9, .pointer (some ⟨bs, 0, none⟩)), (11, .int .u64 ((64 * k : Nat) : Int)), (12, .int .i64 (k : Nat))] ∧ SI d hd tn snap [] g ∧ hd.base = 64 * k ∧ hd.first = 4294967296 + 64 * k ∧ hd.life = 2 ∧ tn ≤ 2 + k ∧ d.calls ≤ 10 + 1000 * (k : Nat) ∧ (0 < k → snap = (byS N (k - 1))) ∧ On W0 (StoreP 150 bs b bt br hd snap [] :: TwinP 126 bt b 0 tn (headB hd) :: RingP 130 br b g :: DiskP 106 110 b d :: F) w) (fun k => R0 - k) (0) ?_ ?_
              · exact ⟨Nat.zero_le _, _, hd1, 2, [], (g0R 98 256 4294967296 0 2), d2, mkE_of ⟨rfl, rfl, rfl, rfl, rfl, rfl, rfl, trivial⟩, S2, rfl, rfl, rfl, by omega, by omega, fun hh => absurd hh (by decide), h.to⟩
              · clear h S2
                rintro k env w ⟨hk, j, hd, tn, snap, g, d, rfl, S, hx1, hx2, hx3, htn, hcd, hsn, h⟩
                refine W.seq ?_
                refine W.seq ?_
                refine W.region ?_
                refine WL.val run_move rfl rfl ?_
                refine WL.val run_move rfl rfl ?_
                refine WL.val (run_lss rfl rfl) rfl rfl ?_
                refine WL.nil ?_
                refine W.condIf rfl (fun c19 => ?_) (fun c19 => ?_)
                · skip
                  refine W.skip ?_
                  refine W.seq ?_
                  refine W.block ?_
                  refine W.seq ?_
                  refine W.seq ?_
                  refine W.region ?_
                  refine WL.val run_assign rfl rfl ?_
                  refine WL.nil ?_
                  refine W.block ?_
                  refine W.loop (fun (i : Nat) env w => i ≤ 64 ∧ ∃ (j : Env) (es : List En) (g : Rg) (d : Dk), env = mkE j [(0, .int .i64 (R0 : Int)), (1, .int .i64 (Z : Int)), (2, .int .i64 (N : Int)), (7, .pointer (some ⟨b, 0, none⟩)), (9, .pointer (some ⟨bs, 0, none⟩)), (11, .int .u64 ((64 * k + i : Nat) : Int)), (12, .int .i64 (k : Nat)), (13, .int .i64 (i : Nat))] ∧ SI d hd tn snap es g ∧ es.length = i ∧ usedB (es.map enB) ≤ 2 * i ∧ d.calls ≤ 10 + 1000 * (k : Nat) + 6 * (i : Nat) ∧ On W0 (StoreP 150 bs b bt br hd snap es :: TwinP 126 bt b 0 tn (headB hd) :: RingP 130 br b g :: DiskP 106 110 b d :: F) w) (fun i => 64 - i) (0) ?_ ?_
                  · exact ⟨Nat.zero_le _, _, [], g, d, mkE_of ⟨rfl, rfl, rfl, rfl, rfl, rfl, rfl, rfl, trivial⟩, S, rfl, Nat.zero_le _, by omega, h⟩
                  · clear h S hcd
                    rintro i env w ⟨hi, j, es, g, d, rfl, S, hel, hu, hcd, h⟩
                    refine W.seq ?_
                    refine W.seq ?_
                    refine W.region ?_
                    refine WL.val run_move rfl rfl ?_
                    refine WL.val (run_lss rfl rfl) rfl rfl ?_
                    refine WL.nil ?_
                    refine W.condIf rfl (fun c27 => ?_) (fun c27 => ?_)
                    · skip
                      refine W.skip ?_
                      refine W.seq ?_
                      have hi2 : i < 64 := by omega
                      refine W.block ?_
                      refine W.seq ?_
                      refine W.region ?_
                      refine WL.val run_move rfl rfl ?_
                      refine WL.val (run_addK (k := .u64) (m := 64 * k + i) (n := 1) rfl rfl (Int.ofNat_le.2 (show _ ≤ 18446744073709551615 by omega))) rfl rfl ?_
                      refine WL.val run_assign rfl rfl ?_
                      refine WL.nil ?_
                      refine W.seq ?_
                      refine W.region ?_
                      refine WL.val run_move rfl rfl ?_
                      refine WL.val run_move rfl rfl ?_
                      refine WL.val run_move rfl rfl ?_
                      refine WL.val run_move rfl rfl ?_
                      refine WL.eff (eff_call Try.call58 (sbytes_ok (n := Z) (k := i) (by omega) (by omega) h)) rfl rfl ?_
                      rintro _ w ⟨a69, rfl, h⟩
                      have hbz := byS_length Z i
                      refine WL.val (run_buildS (pl := [(0, 1), (1, 1), (2, 1)]) (out := [.int .u64 _, .int .u64 _, .slice _ _ _]) Try.underlying96 Try.zeroValue96 (fun w => by kernel_rfl) rfl (⟨⟨_, _, rfl, rfl, by decide⟩, ⟨⟨_, _, rfl, rfl, by decide⟩, ⟨⟨_, _, rfl, rfl, by decide⟩, trivial⟩⟩⟩) rfl) rfl rfl ?_
                      refine WL.eff (eff_call Try.call57 (sapp (bs := bs) (bt := bt) (br := br) (i := i) (idx := 64 * k + i + 1) (ep := 1) (bb := (byS Z i)) (tn := tn) (hd := hd) (snap := snap) (es := es) (g := g) (d := d) S (by omega) (by decide) (by omega) hu (by omega) (by omega) (by omega) (by omega) (((h.fetch (DiskP 106 110 b d)).fetch (RingP 130 br b g)).fetch (StoreP 150 bs b bt br hd snap es)) (Gives.ownO (v := .slice a69 (byS Z i).length (byS Z i).length)))) rfl rfl ?_
                      rintro _ w ⟨rfl, d3, S3, hu3, c3, h⟩
                      refine WL.val (run_neqF rfl rfl (rfl)) rfl rfl ?_
                      refine WL.nil ?_
                      refine W.condF rfl ?_
                      refine W.skip ?_
                      refine W.region ?_
                      refine WL.val run_move rfl rfl ?_
                      refine WL.val (run_incN rfl rfl (by omega)) rfl rfl ?_
                      refine WL.val run_assign rfl rfl ?_
                      refine WL.nil ?_
                      -- round, path FFFFFFLTLT
                      exact ⟨i + 1, ⟨by omega, _, _, _, d3, mkE_of ⟨rfl, rfl, rfl, rfl, rfl, congrArg (fun q : Nat => Value.int .u64 (q : Int)) (show 64 * k + i + 1 = 64 * k + (i + 1) by omega), rfl, rfl, trivial⟩, S3, (by rw [List.length_append, hel]; rfl), hu3, by omega, h.to⟩, by show 64 - (i + 1) < 64 - i; omega⟩
                    · skip
                      refine W.exit ?_
                      refine W.seq ?_
                      have ob_ : i = 64 := by omega
                      obtain rfl := ob_
                      have hd64 : es.drop 64 = [] := List.drop_of_length_le (by omega)
                      have hbn := byS_length N k
                      refine W.region ?_
                      refine WL.val run_move rfl rfl ?_
                      refine WL.val run_move rfl rfl ?_
                      refine WL.val run_move rfl rfl ?_
                      refine WL.val run_move rfl rfl ?_
                      refine WL.eff (eff_call Try.call58 (sbytes_ok (n := N) (k := k) (by omega) (by omega) h)) rfl rfl ?_
                      rintro _ w ⟨a77, rfl, h⟩
                      refine WL.eff (eff_call Try.call59 (scomp (bs := bs) (bt := bt) (br := br) (tn := tn) (k := 64) (idx := 64 * k + 64) (d := d) (hd := hd) (snap := snap) (sn := (byS N k)) (es := es) (g := g) (by omega) S (by omega) (by omega) (by omega) (by omega) (by show tn + 1 < 18446744073709551616; omega) (by omega) ((((h.fetch (DiskP 106 110 b d)).fetch (RingP 130 br b g)).fetch (TwinP 126 bt b 0 tn (headB hd))).fetch (StoreP 150 bs b bt br hd snap es)) (Gives.ownO (v := .slice a77 (byS N k).length (byS N k).length)))) rfl rfl ?_
                      rintro _ w ⟨rfl, d4, S4, c4, h⟩
                      rw [hd64] at S4 h
                      refine WL.val (run_neqF rfl rfl (rfl)) rfl rfl ?_
                      refine WL.nil ?_
                      refine W.condF rfl ?_
                      refine W.skip ?_
                      refine W.region ?_
                      refine WL.val run_move rfl rfl ?_
                      refine WL.val (run_incN rfl rfl (by omega)) rfl rfl ?_
                      refine WL.val run_assign rfl rfl ?_
                      refine WL.nil ?_
                      -- round, path FFFFFFLTLF
                      exact ⟨k + 1, ⟨by omega, _, _, tn + 1, (byS N k), _, d4, mkE_of ⟨rfl, rfl, rfl, rfl, rfl, congrArg (fun q : Nat => Value.int .u64 (q : Int)) (show 64 * k + 64 = 64 * (k + 1) by omega), rfl, trivial⟩, S4, (by show hd.base + 64 = _; omega), (by show hd.first + 64 = _; omega), hx3, by omega, by omega, (fun _ => rfl), h.to⟩, by show R0 - (k + 1) < R0 - k; omega⟩
                · skip
                  refine W.exit ?_
                  refine W.seq ?_
                  have ob_ : k = R0 := by omega
                  obtain rfl := ob_
                  have hsn := hsn (by omega)
                  refine W.region ?_
                  refine WL.val run_move rfl rfl ?_
                  refine WL.eff (eff_call Try.call56 (sreopen S hx3 (by show hd.base + 0 < _; omega) (by omega) (by show tn + 1 < 18446744073709551616; omega) (by omega) (h.fetch (DiskP 106 110 b d)))) rfl rfl ?_
                  rintro _ w ⟨bs2, bt2, br2, rfl, h⟩
                  have hrb : ({ hd with life := hd.life + 1 } : Hd).base = 64 * k := hx1
                  generalize ({ hd with life := hd.life + 1 } : Hd) = hr at h hrb
                  subst hsn
                  have hbn := byS_length N (k - 1)
                  refine WL.val run_move rfl rfl ?_
                  refine WL.val (run_extract rfl rfl) rfl rfl ?_
                  refine WL.val (run_extract rfl rfl) rfl rfl ?_
                  refine WL.val run_assign rfl rfl ?_
                  refine WL.val run_assign rfl rfl ?_
                  refine WL.nil ?_
                  refine W.seq ?_
                  refine W.seq ?_
                  refine W.region ?_
                  refine WL.val run_move rfl rfl ?_
                  refine WL.val (run_neqF rfl rfl (rfl)) rfl rfl ?_
                  refine WL.val run_move rfl rfl ?_
                  refine WL.val run_move rfl rfl ?_
                  refine WL.val (run_eqlPtrNil Try.underlying90 rfl rfl) rfl rfl ?_
                  refine WL.val (run_pickF rfl) rfl rfl ?_
                  refine WL.nil ?_
                  refine W.condF rfl ?_
                  refine W.skip ?_
                  refine W.seq ?_
                  refine W.region ?_
                  refine WL.val run_move rfl rfl ?_
                  refine WL.eff (eff_call Try.call60 (sbase_ok (bs := bs2) (bt := bt2) (br := br2) (hd := hr) (snap := (byS N (k - 1))) (es := []) (by omega) h)) rfl rfl ?_
                  rintro v93 w ⟨a93, hv93, h⟩
                  rw [hrb] at hv93
                  subst hv93
                  refine WL.val run_move rfl rfl ?_
                  refine WL.val (run_extract rfl rfl) rfl rfl ?_
                  refine WL.val (run_extract rfl rfl) rfl rfl ?_
                  refine WL.val run_assign rfl rfl ?_
                  refine WL.val run_assign rfl rfl ?_
                  refine WL.nil ?_
                  refine W.seq ?_
                  refine W.draw Try.follows h (fun w h => ?_)
                  refine WT.pure 0 rfl (by kernel_rfl) (fun w' => run_move) rfl rfl ?_
                  refine WT.pure 1 rfl (by kernel_rfl) (fun w' => run_move) rfl rfl ?_
                  refine WT.pure 2 rfl (by kernel_rfl) (fun w' => run_eqlT rfl rfl (rfl)) rfl rfl ?_
                  refine WT.pure 3 rfl (by kernel_rfl) (fun w' => run_move) rfl rfl ?_
                  refine WT.pure 4 rfl (by kernel_rfl) (fun w' => run_move) rfl rfl ?_
                  refine WT.take 5 (fun w => Bytes (.slice a93 (byS N (k - 1)).length (byS N (k - 1)).length) ((byS N (k - 1))) (hp w)) rfl (by kernel_rfl) rfl rfl (h.cellsO (v := .slice a93 (byS N (k - 1)).length (byS N (k - 1)).length)) (fun w' hC => run_bytesStr Try.underlying22 Try.underlying5 Try.underlying9 rfl hC) ?_
                  refine WT.pure 6 rfl (by kernel_rfl) (fun w' => run_move) rfl rfl ?_
                  refine WT.pure 7 rfl (by kernel_rfl) (fun w' => run_move) rfl rfl ?_
                  refine WT.pure 8 rfl (by kernel_rfl) (fun w' => (run_subN (m := k) (n := 1) rfl rfl (by omega) (by omega))) rfl rfl ?_
                  refine WT.eff 9 [true] rfl (by kernel_rfl) (by kernel_rfl) (eff_call Try.call58 (sbytes_ok (n := N) (k := k - 1) (by omega) (by omega) h)) rfl rfl ?_
                  rintro _ w ⟨a105, rfl, h⟩
                  refine ⟨⟨h.cellsO (v := .slice a93 (byS N (k - 1)).length (byS N (k - 1)).length), trivial⟩, ?_⟩
                  refine WT.take 10 (fun w => Bytes (.slice a105 (byS N (k - 1)).length (byS N (k - 1)).length) ((byS N (k - 1))) (hp w)) rfl (by kernel_rfl) rfl rfl (h.cellsO (v := .slice a105 (byS N (k - 1)).length (byS N (k - 1)).length)) (fun w' hC => run_bytesStr Try.underlying22 Try.underlying5 Try.underlying9 rfl hC) ?_
                  refine WT.pure 11 rfl (by kernel_rfl) (fun w' => run_eqlStrT rfl rfl (rfl)) rfl rfl ?_
                  refine WT.pure 12 rfl (by kernel_rfl) (fun w' => (run_pickT rfl)) rfl rfl ?_
                  refine WT.pure 13 rfl (by kernel_rfl) (fun w' => run_move) rfl rfl ?_
                  refine WT.pure 14 rfl (by kernel_rfl) (fun w' => run_move) rfl rfl ?_
                  refine WT.pure 16 rfl (by kernel_rfl) (fun w' => run_move) rfl rfl ?_
                  refine WT.eff 15 [false, false] rfl (by kernel_rfl) (by kernel_rfl) (eff_call Try.call61 (slastP_ok (bs := bs2) (bt := bt2) (br := br2) (hd := hr) (snap := (byS N (k - 1))) (es := []) (by rw [hrb]; show 64 * k + 0 < _; omega) (by decide) (h.fetch (StoreP 150 bs2 b bt2 br2 hr (byS N (k - 1)) [])))) rfl rfl ?_
                  rintro v111 w ⟨hv111, h⟩
                  rw [hrb] at hv111
                  subst hv111
                  refine ⟨trivial, ?_⟩
                  refine WT.pure 17 rfl (by kernel_rfl) (fun w' => run_eqlT rfl rfl (rfl)) rfl rfl ?_
                  refine WT.pure 18 rfl (by kernel_rfl) (fun w' => (run_pickT rfl)) rfl rfl ?_
                  refine WT.pure 19 rfl (by kernel_rfl) (fun w' => run_assign) rfl rfl ?_
                  refine WT.done (by kernel_rfl) ?_
                  refine W.ret ?_
                  refine bodyQ.r1 (v := .bool _) Try.results13 rfl ?_
                  -- path FFFFFFLF
                  exact ⟨rfl, h.to⟩

end Go.Proofs.Ytlahgihjjabgmaa
