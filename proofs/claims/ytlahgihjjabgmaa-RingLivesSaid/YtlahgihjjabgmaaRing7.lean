/-
  RingLives. Lines of walks printed by a program of the prover's.
-/
import Derived.Test.YtlahgihjjabgmaaRing5
import Derived.Test.YtlahgihjjabgmaaRingV
namespace Go.Proofs.Ytlahgihjjabgmaa
open Go Go.Sl Go.Sl.ByM Go.Sl.DkM Go.Sl.TwM Go.Sl.RgM
set_option linter.unusedVariables false
set_option linter.unusedSimpArgs false
set_option maxHeartbeats 1000000
set_option maxRecDepth 8000
variable {W0 w : World} {L F : List HProp}

theorem crashPn {b n : Nat} {d : Dk} {picks : List Int} {ap : Option Addr} {cp : Nat} (hn : picks.length = n) (hcl : d.calls ≤ 1000000000000000000) (h : On W0 (DiskP 106 110 b d :: L) w) (C : Gives L (Cells 1 (.slice ap n cp) n (intsV picks))) : Calls Try.prog 19 #[.pointer (some ⟨b, 0, none⟩), .slice ap n cp] w (Ret fun v w' => On W0 (DiskP 106 110 b (crashD d picks) :: L) w') := by
  subst hn
  exact crashP hcl h C

theorem rows_take {l : List BX} {k : Nat} {x : BX} (h : l[k]? = some x) (f : BX → Value) : (l.take (k + 1)).map f = (l.take k).map f ++ [f x] := by rw [List.take_add_one, h]; simp
theorem rows_takeB {l : List BX} {k : Nat} {x : BX} (h : l[k]? = some x) : (l.take (k + 1)).map BX.b = (l.take k).map BX.b ++ [x.b] := by rw [List.take_add_one, h]; simp
theorem live_rg {life : Nat} {bs : List (List UInt8)} (hb : ∀ b ∈ bs, b.length ≤ 480) : (rgF (g0R 0 12 1 0 life) bs).at_ = 0 ∧ (rgF (g0R 0 12 1 0 life) bs).n = 12 ∧ (rgF (g0R 0 12 1 0 life) bs).life = life ∧ (rgF (g0R 0 12 1 0 life) bs).used = bs.length ∧
    (rgF (g0R 0 12 1 0 life) bs).next = 1 + bs.length ∧ (rgF (g0R 0 12 1 0 life) bs).place = bs.length % 12 ∧ (rgF (g0R 0 12 1 0 life) bs).first + (rgF (g0R 0 12 1 0 life) bs).l.length = 1 + bs.length := by
  have F := rgF_facts (g0R 0 12 1 0 life) bs
  have hp := rgF_place (g := g0R 0 12 1 0 life) (by show (0 : Nat) < 12; decide) bs
  have hu := usedB_small hb
  have hl : (rgF (g0R 0 12 1 0 life) bs).l.length = bs.length := by rw [F.len]; show 0 + bs.length = _; omega
  have hf : (rgF (g0R 0 12 1 0 life) bs).first = 1 := F.first
  refine ⟨F.at_, F.n, F.life, by rw [F.used, hu]; show 0 + bs.length = _; omega, by unfold Rg.next; rw [hf, hl], by rw [hp, hu]; show (0 + bs.length) % 12 = _; rw [Nat.zero_add], by rw [hf, hl]⟩
theorem few_take {l : List BX} {k : Nat} (h : ∀ (j : Nat) (x : BX), j < k → l[j]? = some x → x.b.length ≤ 480) : ∀ x ∈ l.take k, x.b.length ≤ 480 := by
  intro x hx
  obtain ⟨j, hj⟩ := List.getElem?_of_mem hx
  rw [List.getElem?_take] at hj
  split at hj
  · exact h j x ‹_› hj
  · cases hj
theorem few_b {l : List BX} (h : ∀ x ∈ l, x.b.length ≤ 480) : ∀ b ∈ l.map BX.b, b.length ≤ 480 := by
  intro b hb
  obtain ⟨x, hx, rfl⟩ := List.mem_map.1 hb
  exact h x hx
theorem picks01 (keep n : Nat) : ∀ x ∈ ((List.range n).map fun (k : Nat) => ((keep / 2 ^ k % 2 ^ 1 : Nat) : Int)), x = 0 ∨ x = 1 := by
  intro x hx
  obtain ⟨k, _, rfl⟩ := List.mem_map.1 hx
  have := Nat.mod_lt (keep / 2 ^ k) (show 0 < 2 ^ 1 by decide)
  omega
theorem gBX {L : List HProp} {x : BX} (h : Gives L (Bytes x.v x.b)) : Gives L (Bytes (.slice x.1 x.2.2.length x.2.1) x.2.2) := h

theorem glives_ok {a0 a2 : Option Addr} {c0 c2 keep : Nat} {l0 l2 : List BX} (hk : keep < 256) (h : On W0 F w) (C0 : Gives F (Cells 1 (.slice a0 l0.length c0) l0.length (l0.map BX.v))) (B0 : ∀ x ∈ l0, Gives F (Bytes x.v x.b)) (C2 : Gives F (Cells 1 (.slice a2 l2.length c2) l2.length (l2.map BX.v))) (B2 : ∀ x ∈ l2, Gives F (Bytes x.v x.b)) : Calls Try.prog 7 #[.slice a0 l0.length c0, .int .u8 (keep : Int), .slice a2 l2.length c2] w (Ret fun v w' => v = .bool true ∧ On W0 F w') := by
  refine enter Try.func7 rfl Try.ntmps7 rfl ?_
  refine W.seq ?_
  refine W.region ?_
  refine WL.val run_assign rfl rfl ?_
  refine WL.nil ?_
  refine W.seq ?_
  refine W.seq ?_
  refine W.region ?_
  refine WL.eff (eff_call Try.call33 (gknown_ok h)) rfl rfl ?_
  rintro _ w ⟨rfl, h⟩
  refine WL.val (run_not rfl) rfl rfl ?_
  refine WL.nil ?_
  refine W.condF rfl ?_
  refine W.skip ?_
  refine W.seq ?_
  refine W.seq ?_
  refine W.region ?_
  refine WL.val run_move rfl rfl ?_
  refine WL.val (run_lenSlice Try.underlying23 rfl) rfl rfl ?_
  refine WL.dec (run_eql rfl rfl) rfl rfl (fun c30 => ?_) (fun c30 => ?_)
  · skip
    refine WL.val run_move rfl rfl ?_
    refine WL.skip rfl rfl ?_
    refine WL.skip rfl rfl ?_
    refine WL.skip rfl rfl ?_
    refine WL.val (run_pickT rfl) rfl rfl ?_
    refine WL.val run_move rfl rfl ?_
    refine WL.skip rfl rfl ?_
    refine WL.skip rfl rfl ?_
    refine WL.skip rfl rfl ?_
    refine WL.val (run_pickT rfl) rfl rfl ?_
    refine WL.nil ?_
    refine W.condT rfl ?_
    refine W.seq ?_
    refine W.region ?_
    refine WL.val run_assign rfl rfl ?_
    refine WL.nil ?_
    refine W.ret ?_
    refine bodyQ.r1 (v := .bool _) Try.results7 rfl ?_
    -- path T
    exact ⟨rfl, h.to⟩
  · skip
    refine WL.val run_move rfl rfl ?_
    refine WL.val run_move rfl rfl ?_
    refine WL.val (run_lenSlice Try.underlying23 rfl) rfl rfl ?_
    refine WL.dec (run_gtr rfl rfl) rfl rfl (fun c34 => ?_) (fun c34 => ?_)
    · skip
      refine WL.val (run_pickF rfl) rfl rfl ?_
      refine WL.val run_move rfl rfl ?_
      refine WL.skip rfl rfl ?_
      refine WL.skip rfl rfl ?_
      refine WL.skip rfl rfl ?_
      refine WL.val (run_pickT rfl) rfl rfl ?_
      refine WL.nil ?_
      refine W.condT rfl ?_
      refine W.seq ?_
      refine W.region ?_
      refine WL.val run_assign rfl rfl ?_
      refine WL.nil ?_
      refine W.ret ?_
      refine bodyQ.r1 (v := .bool _) Try.results7 rfl ?_
      -- path FT
      exact ⟨rfl, h.to⟩
    · skip
      refine WL.val (run_pickF rfl) rfl rfl ?_
      refine WL.val run_move rfl rfl ?_
      refine WL.val run_move rfl rfl ?_
      refine WL.val (run_lenSlice Try.underlying23 rfl) rfl rfl ?_
      refine WL.val (run_gtr rfl rfl) rfl rfl ?_
      refine WL.val (run_pickF rfl) rfl rfl ?_
      refine WL.nil ?_
      refine W.condIf rfl (fun c7 => ?_) (fun c7 => ?_)
      · skip
        refine W.seq ?_
        refine W.region ?_
        refine WL.val run_assign rfl rfl ?_
        refine WL.nil ?_
        refine W.ret ?_
        refine bodyQ.r1 (v := .bool _) Try.results7 rfl ?_
        -- path FFT
        exact ⟨rfl, h.to⟩
      · skip
        refine W.skip ?_
        refine W.seq ?_
        have hl0 : 0 < l0.length := by omega
        have hl6 : l0.length ≤ 6 := by omega
        have hm6 : l2.length ≤ 6 := by omega
        have hmx := maxLen_eq
        refine W.region ?_
        refine WL.eff (eff_call Try.call16 (new_ok h)) rfl rfl ?_
        rintro _ w hv
        rcases hv with ⟨_, _, b, rfl, h⟩ | ⟨hno, _, _⟩
        rotate_left
        · exact absurd ⟨by decide, by decide⟩ hno
        refine WL.val run_move rfl rfl ?_
        refine WL.val (run_extract rfl rfl) rfl rfl ?_
        refine WL.val (run_extract rfl rfl) rfl rfl ?_
        refine WL.val run_assign rfl rfl ?_
        refine WL.val run_assign rfl rfl ?_
        refine WL.nil ?_
        refine W.seq ?_
        refine W.region ?_
        refine WL.val run_move rfl rfl ?_
        refine WL.eff (eff_call Try.call34 (rblank (d := newD 12) (at_ := 0) (n := 12) (first := 1) (place := 0) (life := 1) (fun k => rfl) (by decide) (by decide) (by decide) (by decide) (by decide) (by decide) rfl (by decide) h)) rfl rfl ?_
        rintro _ w ⟨br, a47, rfl, h⟩
        refine WL.val run_move rfl rfl ?_
        refine WL.val (run_extract rfl rfl) rfl rfl ?_
        refine WL.val (run_extract rfl rfl) rfl rfl ?_
        refine WL.val (run_extract rfl rfl) rfl rfl ?_
        refine WL.val run_assign rfl rfl ?_
        refine WL.val run_assign rfl rfl ?_
        refine WL.val run_assign rfl rfl ?_
        refine WL.nil ?_
        refine W.seq ?_
        refine W.region ?_
        refine WL.val run_assign rfl rfl ?_
        refine WL.nil ?_
        refine W.seq ?_
        refine W.seq ?_
        refine W.region ?_
        refine WL.val run_assign rfl rfl ?_
        refine WL.nil ?_
        refine W.block ?_
        refine W.loop (fun (i : Nat) env w => i ≤ l0.length ∧ ∃ (j : Env) (ap : Option Addr) (cp : Nat) (d : Dk), env = mkE j [(0, .slice a0 l0.length c0), (1, .int .u8 (keep : Int)), (2, .slice a2 l2.length c2), (7, .pointer (some ⟨b, 0, none⟩)), (9, .pointer (some ⟨br, 0, none⟩)), (12, .slice ap i cp), (13, .int .i64 (i : Nat))] ∧ (∀ (k : Nat) (x : BX), k < i → l0[k]? = some x → x.b.length ≤ 480) ∧ OneS d (l0.take i) ∧ On W0 (RingP 130 br b (rgF (g0R 0 12 1 0 1) ((l0.take i).map BX.b)) :: DiskP 106 110 b d :: Own 1 (.slice ap i cp) i (intsV ((List.range i).map fun (k : Nat) => ((keep / 2 ^ k % 2 ^ 1 : Nat) : Int))) :: F) w) (fun i => l0.length - i) (0) ?_ ?_
        · have h0 : On W0 (RingP 130 br b (g0R 0 12 1 0 1) :: DiskP 106 110 b (newD 12) :: Own 1 (.slice none 0 0) 0 [] :: F) w := (h.ownEmpty 1 none).to
          exact ⟨Nat.zero_le _, _, none, 0, newD 12, mkE_of ⟨rfl, rfl, rfl, rfl, rfl, rfl, rfl, trivial⟩, fun k x hh => by omega, OneS.new, h0⟩
        · clear h
          rintro i env w ⟨hi, j, ap, cp, d, rfl, hfew, hO, h⟩
          have hft := few_take hfew
          have hlt : (l0.take i).length = i := by rw [List.length_take]; omega
          have ob_ := live_rg (life := 1) (few_b hft)
          obtain ⟨r1, r2, r3, r4, r5, r6, r7⟩ := ob_
          rw [List.length_map, hlt] at r4 r5 r6 r7
          refine W.seq ?_
          refine W.seq ?_
          refine W.region ?_
          refine WL.val run_move rfl rfl ?_
          refine WL.val run_move rfl rfl ?_
          refine WL.val (run_lenSlice Try.underlying23 rfl) rfl rfl ?_
          refine WL.val (run_lss rfl rfl) rfl rfl ?_
          refine WL.nil ?_
          refine W.condIf rfl (fun c18 => ?_) (fun c18 => ?_)
          · skip
            refine W.skip ?_
            refine W.seq ?_
            refine W.block ?_
            refine W.seq ?_
            refine W.seq ?_
            have hi2 : i < l0.length := by omega
            have ob_ : ∃ x, l0[i]? = some x := ⟨l0[i]'hi2, List.getElem?_eq_getElem _⟩
            obtain ⟨x, hx⟩ := ob_
            have hxB := gBX (B0 x (List.mem_of_getElem? hx))
            have ob_ := Cells.addr (h.readsTo C0) (by omega)
            obtain ⟨b0, o0, ha0⟩ := ob_
            subst ha0
            refine W.region ?_
            refine WL.val run_move rfl rfl ?_
            refine WL.val run_move rfl rfl ?_
            refine WL.val (run_indexAddr Try.underlying23 Try.sizeOf22 rfl rfl (by omega) (by omega)) rfl rfl ?_
            refine WL.val (run_load1 Try.isAgg22 rfl ((h.readsTo C0).elem (i := i) (vs := [.slice x.1 x.2.2.length x.2.1]) (by omega) (row_v hx) 0 _ rfl)) rfl rfl ?_
            refine WL.val (run_lenSlice Try.underlying22 rfl) rfl rfl ?_
            refine WL.val (run_gtr rfl rfl) rfl rfl ?_
            refine WL.nil ?_
            refine W.condIf rfl (fun c23 => ?_) (fun c23 => ?_)
            · skip
              refine W.seq ?_
              refine W.region ?_
              refine WL.val run_assign rfl rfl ?_
              refine WL.nil ?_
              refine W.ret ?_
              refine bodyQ.r1 (v := .bool _) Try.results7 rfl ?_
              -- path FFFLTT
              exact ⟨rfl, h.to⟩
            · skip
              refine W.skip ?_
              refine W.seq ?_
              have hxl : x.b.length ≤ 480 := by show x.2.2.length ≤ 480; omega
              have hxn : needR x.b.length = 1 := needR_small hxl
              have hOn := hO.n; have hOc := hO.calls; rw [hlt] at hOc
              have hO2 := hO.app hxl (by omega)
              rw [hlt] at hO2
              refine W.region ?_
              refine WL.val run_move rfl rfl ?_
              refine WL.val run_move rfl rfl ?_
              refine WL.val run_move rfl rfl ?_
              refine WL.val (run_indexAddr Try.underlying23 Try.sizeOf22 rfl rfl (by omega) (by omega)) rfl rfl ?_
              refine WL.val (run_load1 Try.isAgg22 rfl ((h.readsTo C0).elem (i := i) (vs := [.slice x.1 x.2.2.length x.2.1]) (by omega) (row_v hx) 0 _ rfl)) rfl rfl ?_
              refine WL.eff (eff_call Try.call35 (append_found (g := (rgF (g0R 0 12 1 0 1) ((l0.take i).map BX.b))) (bb := x.b) (d := d) hO.live (by rw [r2]; omega) (by rw [r1, r2, hOn]; decide) (by omega) (by rw [r4, r2, hxn]; omega) (by rw [r7]; omega) h (Gives.to hxB))) rfl rfl ?_
              rintro _ w ⟨rfl, d', hd', l', n', c', h⟩
              rw [r1, r2, r3, r5, r6] at hd'
              rw [← hd'] at hO2
              refine WL.nil ?_
              refine W.region ?_
              refine WL.val run_move rfl rfl ?_
              refine WL.val run_move rfl rfl ?_
              refine WL.val run_move rfl rfl ?_
              refine WL.val (run_convIn Try.underlying3 Try.underlying62 rfl (by show (0 : Int) ≤ _; omega) (by show _ ≤ (18446744073709551615 : Int); omega)) rfl rfl ?_
              refine WL.val (run_shrN (k := .u8) (m := keep) (j := i) rfl rfl (by show i ≤ 8; omega)) rfl rfl ?_
              refine WL.val (run_andMod (k := .u8) (m := keep / 2 ^ i) (n := 1) 1 rfl rfl (by have := Nat.div_le_self keep (2 ^ i); show _ ≤ (255 : Int); omega) (by decide) rfl) rfl rfl ?_
              refine WL.val (run_convIn Try.underlying5 Try.underlying3 rfl (by show (-9223372036854775808 : Int) ≤ _; omega) (by show _ ≤ (9223372036854775807 : Int); have := Nat.mod_lt (keep / 2 ^ i) (show 0 < 2 ^ 1 by decide); omega)) rfl rfl ?_
              refine WL.eff (eff_mkSlice (zl := [.int .i64 0]) (out := [.int .i64 _]) h Try.underlying24 Try.sizeOf3 Try.zeroValue3 (by decide) (by kernel_rfl) rfl rfl (by simp) (⟨⟨_, _, rfl, rfl, by decide⟩, trivial⟩) rfl rfl (by simp [maxLen])) rfl rfl ?_
              rintro _ w ⟨b76, rfl, h⟩
              refine WL.eff (eff_app (bytes := 8) (c2 := 1) h rfl rfl (h.cellsO (v := .slice (some ⟨b76, 0, none⟩) 1 1)) Try.underlying24 rfl rfl rfl rfl rfl (by omega) (by omega) (by simp [Value.oneCell'])) rfl rfl ?_
              rintro _ w ⟨a77, c77, rfl, h⟩
              refine WL.val run_assign rfl rfl ?_
              refine WL.nil ?_
              refine W.region ?_
              refine WL.val run_move rfl rfl ?_
              refine WL.val (run_incN rfl rfl (by omega)) rfl rfl ?_
              refine WL.val run_assign rfl rfl ?_
              refine WL.nil ?_
              -- round, path FFFLTF
              have e1 := rows_takeB hx
              have e2 : (((List.range (i + 1)).map fun (k : Nat) => ((keep / 2 ^ k % 2 ^ 1 : Nat) : Int))) = ((List.range i).map fun (k : Nat) => ((keep / 2 ^ k % 2 ^ 1 : Nat) : Int)) ++ [((keep / 2 ^ i % 2 ^ 1 : Nat) : Int)] := by rw [List.range_succ, List.map_append]; rfl
              have h2 : On W0 (Own 1 (.slice a77 (i + 1) c77) (i + 1) (intsV (((List.range (i + 1)).map fun (k : Nat) => ((keep / 2 ^ k % 2 ^ 1 : Nat) : Int)))) :: RingP 130 br b (keepR (rgF (g0R 0 12 1 0 1) ((l0.take i).map BX.b)) x.b) :: DiskP 106 110 b d' :: F) w := by
                have e3 : intsV (((List.range (i + 1)).map fun (k : Nat) => ((keep / 2 ^ k % 2 ^ 1 : Nat) : Int))) = intsV ((List.range i).map fun (k : Nat) => ((keep / 2 ^ k % 2 ^ 1 : Nat) : Int)) ++ [.int .i64 ((keep / 2 ^ i % 2 ^ 1 : Nat) : Int)] := by rw [e2]; unfold intsV; rw [List.map_append]; rfl
                rw [e3]
                exact h.to
              rw [← rgF_app, ← e1] at h2
              refine ⟨i + 1, ⟨by omega, _, a77, c77, d', mkE_of ⟨rfl, rfl, rfl, rfl, rfl, rfl, rfl, trivial⟩, ?_, ?_, h2.to⟩, by show l0.length - (i + 1) < l0.length - i; omega⟩
              · intro k y hk hy
                have ob_ := Nat.lt_or_ge k i
                rcases ob_ with hh | hh
                · exact hfew k y hh hy
                · have ob_ : k = i := by omega
                  obtain rfl := ob_
                  rw [hx] at hy
                  cases hy
                  exact hxl
              · rw [List.take_add_one, hx]
                exact hO2
          · skip
            refine W.exit ?_
            refine W.seq ?_
            have ob_ : i = l0.length := by omega
            obtain rfl := ob_
            have htk : l0.take l0.length = l0 := List.take_length
            rw [htk] at hO hft h
            have ob_ : ∃ P : List Int, P = ((List.range l0.length).map fun (k : Nat) => ((keep / 2 ^ k % 2 ^ 1 : Nat) : Int)) := ⟨_, rfl⟩
            obtain ⟨P, hP⟩ := ob_
            have hPl : P.length = l0.length := by rw [hP, List.length_map, List.length_range]
            have hP01 : ∀ x ∈ P, x = 0 ∨ x = 1 := by rw [hP]; exact picks01 keep l0.length
            rw [← hP] at h
            have ob_ := exists_pre P hP01
            obtain ⟨n1, hn1, hp1, hz1⟩ := ob_
            rw [hPl] at hn1 hz1
            have hOc : d.calls = l0.length := hO.calls
            have hlow1 : d.calls ≤ 1000000000000000000 := by rw [hOc]; omega
            have S := lives_cut hO.m hO.live.off hO.live.dead hO.n hft hl6 hPl hP01 hn1 hp1 hz1
            have hcc : (onD (crashD d P)).calls = l0.length := by rw [← hO.calls]; exact crashD_calls d P
            refine W.region ?_
            refine WL.val run_move rfl rfl ?_
            refine WL.val run_move rfl rfl ?_
            have hcr := crashPn (b := b) (n := l0.length) (d := d) (picks := P) (ap := ap) (cp := cp) hPl hlow1 (h.fetch (DiskP 106 110 b d)) (Gives.ownO (v := .slice ap l0.length cp))
            refine WL.eff (eff_call Try.call19 hcr) rfl rfl ?_
            clear hcr
            rintro _ w h
            refine WL.nil ?_
            refine W.seq ?_
            refine W.region ?_
            refine WL.val run_move rfl rfl ?_
            refine WL.eff (eff_call Try.call20 (don_ok (d := (crashD d P)) h)) rfl rfl ?_
            rintro _ w h
            have h : On W0 (DiskP 106 110 b (onD (crashD d P)) :: _) w := h
            generalize onD (crashD d P) = e1 at h S hcc
            have hnt : (l0.take n1).length = n1 := by rw [List.length_take]; omega
            have hb1 : (lbs (l0.take n1) []).map (·.2) = (l0.take n1).map BX.b := by rw [lbs_bytes, List.append_nil]
            refine WL.nil ?_
            refine W.seq ?_
            refine W.region ?_
            refine WL.val run_move rfl rfl ?_
            refine WL.eff (eff_call Try.call34 (ropen_row (at_ := 0) (n := 12) (first := 1) (place := 0) (life := 2) hb1 S.chain (by decide) (by decide) (by decide) (by decide) (by decide) (by decide) S.live.st (by rw [S.n]; decide) h)) rfl rfl ?_
            rintro v85 w ⟨bs, ag, hv85, h⟩
            rw [List.length_map, hnt] at hv85
            subst hv85
            refine WL.val run_move rfl rfl ?_
            refine WL.val (run_extract rfl rfl) rfl rfl ?_
            refine WL.val (run_extract rfl rfl) rfl rfl ?_
            refine WL.val (run_extract rfl rfl) rfl rfl ?_
            refine WL.val run_assign rfl rfl ?_
            refine WL.val run_assign rfl rfl ?_
            refine WL.val run_assign rfl rfl ?_
            refine WL.nil ?_
            refine W.seq ?_
            refine W.region ?_
            refine WL.val run_assign rfl rfl ?_
            refine WL.nil ?_
            refine W.cut (fun env w => ∃ (j : Env), env = mkE j [(0, .slice a0 l0.length c0), (2, .slice a2 l2.length c2), (7, .pointer (some ⟨b, 0, none⟩)), (14, .pointer (some ⟨bs, 0, none⟩)), (15, .slice ag n1 n1), (16, .int .i64 0), (17, .int .i64 (n1 : Nat))] ∧ On W0 (RingP 130 bs b (rgF (g0R 0 12 1 0 2) ((l0.take n1 ++ l2.take 0).map BX.b)) :: DiskP 106 110 b e1 :: F) w) ?_ ?_
            · skip
              refine W.block ?_
              refine W.loop (fun (k : Nat) env w => k ≤ n1 ∧ ∃ (j : Env), env = mkE j [(0, .slice a0 l0.length c0), (2, .slice a2 l2.length c2), (7, .pointer (some ⟨b, 0, none⟩)), (12, .slice ap l0.length cp), (14, .pointer (some ⟨bs, 0, none⟩)), (15, .slice ag n1 n1), (16, .int .i64 0), (17, .int .i64 (k : Nat))] ∧ On W0 (Own 1 (.slice ap l0.length cp) l0.length (intsV P) :: RingP 130 bs b (rgF (g0R 0 12 1 0 2) ((l0.take n1 ++ l2.take 0).map BX.b)) :: DiskP 106 110 b e1 :: F) w) (fun k => n1 - k) (0) ?_ ?_
              · have h0 : On W0 (Own 1 (.slice ap l0.length cp) l0.length (intsV P) :: RingP 130 bs b (rgF (g0R 0 12 1 0 2) ((l0.take n1).map BX.b)) :: DiskP 106 110 b e1 :: F) w := h.to
                have e0 : l0.take n1 ++ l2.take 0 = l0.take n1 := by rw [List.take_zero, List.append_nil]
                rw [← e0] at h0
                exact ⟨Nat.zero_le _, _, mkE_of ⟨rfl, rfl, rfl, rfl, rfl, rfl, rfl, rfl, trivial⟩, h0⟩
              · clear h
                rintro k env w ⟨hk2, j, rfl, h⟩
                refine W.seq ?_
                refine W.seq ?_
                refine W.region ?_
                refine WL.val run_move rfl rfl ?_
                refine WL.val run_move rfl rfl ?_
                refine WL.val (run_lenSlice Try.underlying23 rfl) rfl rfl ?_
                refine WL.dec (run_lss rfl rfl) rfl rfl (fun c92 => ?_) (fun c92 => ?_)
                · skip
                  refine WL.val run_move rfl rfl ?_
                  have ob_ : ∃ pz, P[k]? = some pz := ⟨P[k]'(by omega), List.getElem?_eq_getElem _⟩
                  obtain ⟨pz, hpz⟩ := ob_
                  have ob6_ := Own.addr h (by omega)
                  obtain ⟨bp, op, hap⟩ := ob6_
                  subst hap
                  refine WL.val run_move rfl rfl ?_
                  refine WL.val run_move rfl rfl ?_
                  refine WL.val (run_indexAddr Try.underlying24 Try.sizeOf3 rfl rfl (by omega) (by omega)) rfl rfl ?_
                  refine WL.val (run_load1 Try.isAgg3 rfl ((h.cellsO (v := .slice (some ⟨bp, op, none⟩) l0.length cp)).elem (i := k) (vs := [.int .i64 pz]) (by omega) (one_row (by unfold intsV; rw [List.getElem?_map, hpz]; rfl)) 0 _ rfl)) rfl rfl ?_
                  refine WL.val (run_eql rfl rfl) rfl rfl ?_
                  refine WL.val (run_pickT rfl) rfl rfl ?_
                  refine WL.nil ?_
                  refine W.condIf rfl (fun c37 => ?_) (fun c37 => ?_)
                  · have c98 : pz = 1 := c37
                    refine W.skip ?_
                    refine W.block ?_
                    refine W.region ?_
                    refine WL.val run_move rfl rfl ?_
                    refine WL.val (run_add rfl rfl (by omega) (by omega)) rfl rfl ?_
                    refine WL.val run_assign rfl rfl ?_
                    refine WL.nil ?_
                    -- round, path FFFLFLTT
                    have hkn : k < n1 := by
                      have ob_ := Nat.lt_or_ge k n1
                      rcases ob_ with hh | hh
                      · exact hh
                      · have hkk : k = n1 := by omega
                        subst hkk
                        have hz := hz1 (by omega)
                        rw [hz] at hpz
                        cases hpz
                        exact absurd c98 (by decide)
                    exact ⟨k + 1, ⟨by omega, _, mkE_of ⟨rfl, rfl, rfl, rfl, rfl, rfl, rfl, rfl, trivial⟩, h⟩, by show n1 - (k + 1) < n1 - k; omega⟩
                  · have c98 : ¬ pz = 1 := c37
                    refine W.exit ?_
                    -- to the cut, path FFFLFLTF
                    have hkk : k = n1 := by
                      have ob_ := Nat.lt_or_ge k n1
                      rcases ob_ with hh | hh
                      · have h1 := hp1 k hh
                        rw [h1] at hpz
                        cases hpz
                        exact absurd rfl c98
                      · omega
                    subst hkk
                    exact ⟨_, mkE_of ⟨rfl, rfl, rfl, rfl, rfl, rfl, rfl, trivial⟩, h.to⟩
                · skip
                  refine WL.val run_move rfl rfl ?_
                  refine WL.skip rfl rfl ?_
                  refine WL.skip rfl rfl ?_
                  refine WL.skip rfl rfl ?_
                  refine WL.skip rfl rfl ?_
                  refine WL.skip rfl rfl ?_
                  refine WL.val (run_pickF rfl) rfl rfl ?_
                  refine WL.nil ?_
                  refine W.condF rfl ?_
                  refine W.exit ?_
                  -- to the cut, path FFFLFLF
                  have ob_ : k = n1 := by omega
                  obtain rfl := ob_
                  exact ⟨_, mkE_of ⟨rfl, rfl, rfl, rfl, rfl, rfl, rfl, trivial⟩, h.to⟩
            · clear h
              rintro env w ⟨j, rfl, h⟩
              refine W.seq ?_
              refine W.seq ?_
              refine W.region ?_
              refine WL.val run_move rfl rfl ?_
              refine WL.val (run_neqF rfl rfl (rfl)) rfl rfl ?_
              refine WL.val run_move rfl rfl ?_
              refine WL.val run_move rfl rfl ?_
              refine WL.val (run_lenSlice Try.underlying23 rfl) rfl rfl ?_
              refine WL.val run_move rfl rfl ?_
              refine WL.val (run_neqF rfl rfl (rfl)) rfl rfl ?_
              refine WL.val (run_pickF rfl) rfl rfl ?_
              refine WL.nil ?_
              refine W.condF rfl ?_
              refine W.skip ?_
              refine W.seq ?_
              have hCb := (h.reads (Gives.to C0)).bounds
              have hfr := fun (w : World) (h : On W0 F w) => (h.reads C0).front (k := n1) hn1
              have gfr : Gives F (Cells 1 (.slice a0 n1 c0) n1 ((l0.map BX.v).take (n1 * 1))) := fun hh H => (C0 hh H).front hn1
              have hst : List.take (n1 * 1) (l0.map BX.v) = (l0.take n1 ++ l2.take 0).map BX.v := by rw [Nat.mul_one, List.take_zero, List.append_nil, List.map_take]
              refine W.region ?_
              refine WL.eff (eff_mkSlice (zl := []) (out := []) h Try.underlying23 Try.sizeOf22 Try.zeroValue22 (by decide) (by simp) rfl rfl (by simp) (trivial) rfl rfl (by simp [maxLen])) rfl rfl ?_
              rintro _ w ⟨b110, rfl, h⟩
              refine WL.val run_move rfl rfl ?_
              refine WL.val run_move rfl rfl ?_
              refine WL.val (run_cutH Try.underlying23 Try.sizeOf22 rfl rfl  (by omega)) rfl rfl ?_
              refine WL.eff (eff_app0 (bytes := 24) h rfl rfl (h.readsTo gfr) Try.underlying23 rfl rfl rfl rfl rfl (by omega) (by omega) (fun u hu => by obtain ⟨y, _, rfl⟩ := List.mem_map.1 (List.mem_of_mem_take hu); rfl)) rfl rfl ?_
              rintro _ w ⟨aw, cw, rfl, h⟩
              rw [hst] at h
              refine WL.val run_assign rfl rfl ?_
              refine WL.nil ?_
              refine W.seq ?_
              refine W.seq ?_
              refine W.region ?_
              refine WL.val run_assign rfl rfl ?_
              refine WL.nil ?_
              refine W.block ?_
              refine W.loop (fun (i : Nat) env w => i ≤ l2.length ∧ ∃ (j : Env) (aw : Option Addr) (cw : Nat) (d : Dk), env = mkE j [(2, .slice a2 l2.length c2), (7, .pointer (some ⟨b, 0, none⟩)), (14, .pointer (some ⟨bs, 0, none⟩)), (17, .int .i64 (n1 : Nat)), (18, .slice aw (n1 + i) cw), (19, .int .i64 (i : Nat))] ∧ LiveS d (l0.take n1) (l2.take i) ∧ d.calls ≤ 20 + i ∧ On W0 (Own 1 (.slice aw (n1 + i) cw) (n1 + i) ((l0.take n1 ++ l2.take i).map BX.v) :: RingP 130 bs b (rgF (g0R 0 12 1 0 2) ((l0.take n1 ++ l2.take i).map BX.b)) :: DiskP 106 110 b d :: F) w) (fun i => l2.length - i) (0) ?_ ?_
              · exact ⟨Nat.zero_le _, _, aw, cw, e1, mkE_of ⟨rfl, rfl, rfl, rfl, rfl, rfl, trivial⟩, by rw [List.take_zero]; exact S, by omega, h.to⟩
              · clear h S hcc hb1 gfr hst hfr
                rintro i env w ⟨hi, j, aw, cw, d, rfl, S, hdc, h⟩
                have hyt : (l2.take i).length = i := by rw [List.length_take]; omega
                have hfewB : ∀ b ∈ (l0.take n1 ++ l2.take i).map BX.b, b.length ≤ 480 := few_b (fun x hx => by
                  have ob_ := List.mem_append.1 hx
                  rcases ob_ with hx | hx
                  · exact S.few1 x hx
                  · exact S.few2 x hx)
                have ob_ := live_rg (life := 2) hfewB
                obtain ⟨r1, r2, r3, r4, r5, r6, r7⟩ := ob_
                rw [List.length_map, List.length_append, hnt, hyt] at r4 r5 r6 r7
                refine W.seq ?_
                refine W.seq ?_
                refine W.region ?_
                refine WL.val run_move rfl rfl ?_
                refine WL.val run_move rfl rfl ?_
                refine WL.val (run_lenSlice Try.underlying23 rfl) rfl rfl ?_
                refine WL.dec (run_lss rfl rfl) rfl rfl (fun c118 => ?_) (fun c118 => ?_)
                · skip
                  refine WL.val run_move rfl rfl ?_
                  refine WL.val run_move rfl rfl ?_
                  refine WL.val run_move rfl rfl ?_
                  refine WL.val (run_add rfl rfl (by omega) (by omega)) rfl rfl ?_
                  refine WL.val (run_lssT rfl rfl (by omega)) rfl rfl ?_
                  refine WL.val (run_pickT rfl) rfl rfl ?_
                  refine WL.nil ?_
                  refine W.condT rfl ?_
                  refine W.skip ?_
                  refine W.seq ?_
                  refine W.block ?_
                  refine W.seq ?_
                  refine W.seq ?_
                  have hi2 : i < l2.length := by omega
                  have ob_ : ∃ y, l2[i]? = some y := ⟨l2[i]'hi2, List.getElem?_eq_getElem _⟩
                  obtain ⟨y, hy⟩ := ob_
                  have hyB := gBX (B2 y (List.mem_of_getElem? hy))
                  have ob_ := Cells.addr (h.readsTo C2) (by omega)
                  obtain ⟨b2, o2, ha2⟩ := ob_
                  subst ha2
                  refine W.region ?_
                  refine WL.val run_move rfl rfl ?_
                  refine WL.val run_move rfl rfl ?_
                  refine WL.val (run_indexAddr Try.underlying23 Try.sizeOf22 rfl rfl (by omega) (by omega)) rfl rfl ?_
                  refine WL.val (run_load1 Try.isAgg22 rfl ((h.readsTo C2).elem (i := i) (vs := [.slice y.1 y.2.2.length y.2.1]) (by omega) (row_v hy) 0 _ rfl)) rfl rfl ?_
                  refine WL.val (run_lenSlice Try.underlying22 rfl) rfl rfl ?_
                  refine WL.val (run_gtr rfl rfl) rfl rfl ?_
                  refine WL.nil ?_
                  refine W.condIf rfl (fun c57 => ?_) (fun c57 => ?_)
                  · skip
                    refine W.seq ?_
                    refine W.region ?_
                    refine WL.val run_assign rfl rfl ?_
                    refine WL.nil ?_
                    refine W.ret ?_
                    refine bodyQ.r1 (v := .bool _) Try.results7 rfl ?_
                    -- path FFFLFLTT
                    exact ⟨rfl, h.to⟩
                  · skip
                    refine W.skip ?_
                    refine W.seq ?_
                    refine W.seq ?_
                    have hyl : y.b.length ≤ 480 := by show y.2.2.length ≤ 480; omega
                    have hyn : needR y.b.length = 1 := needR_small hyl
                    have hdn := S.n
                    have hS2 := S.app hyl (by omega)
                    rw [lbs_used S.few1 S.few2, lbs_len, hnt, hyt, Nat.zero_add] at hS2
                    refine W.region ?_
                    refine WL.val run_move rfl rfl ?_
                    refine WL.val run_move rfl rfl ?_
                    refine WL.val run_move rfl rfl ?_
                    refine WL.val (run_indexAddr Try.underlying23 Try.sizeOf22 rfl rfl (by omega) (by omega)) rfl rfl ?_
                    refine WL.val (run_load1 Try.isAgg22 rfl ((h.readsTo C2).elem (i := i) (vs := [.slice y.1 y.2.2.length y.2.1]) (by omega) (row_v hy) 0 _ rfl)) rfl rfl ?_
                    refine WL.eff (eff_call Try.call35 (append_found (br := bs) (g := (rgF (g0R 0 12 1 0 2) ((l0.take n1 ++ l2.take i).map BX.b))) (bb := y.b) (d := d) S.live (by rw [r2]; omega) (by rw [r1, r2, hdn]; decide) (by omega) (by rw [r4, r2, hyn]; omega) (by rw [r7]; omega) ((h.fetch (DiskP 106 110 b d)).fetch (RingP 130 bs b (rgF (g0R 0 12 1 0 2) ((l0.take n1 ++ l2.take i).map BX.b)))) (Gives.to hyB))) rfl rfl ?_
                    rintro _ w ⟨rfl, d', hd', l', n', c', h⟩
                    rw [r1, r2, r3, r5, r6] at hd'
                    rw [← hd'] at hS2
                    rw [hyn] at c'
                    refine WL.val run_move rfl rfl ?_
                    refine WL.val (run_extract rfl rfl) rfl rfl ?_
                    refine WL.val (run_extract rfl rfl) rfl rfl ?_
                    refine WL.val run_assign rfl rfl ?_
                    refine WL.val run_assign rfl rfl ?_
                    refine WL.nil ?_
                    refine W.seq ?_
                    refine W.region ?_
                    refine WL.val run_move rfl rfl ?_
                    refine WL.val (run_neqF rfl rfl (rfl)) rfl rfl ?_
                    refine WL.nil ?_
                    refine W.condF rfl ?_
                    refine W.skip ?_
                    refine W.region ?_
                    refine WL.val run_move rfl rfl ?_
                    refine WL.val run_move rfl rfl ?_
                    refine WL.val run_move rfl rfl ?_
                    refine WL.val (run_indexAddr Try.underlying23 Try.sizeOf22 rfl rfl (by omega) (by omega)) rfl rfl ?_
                    refine WL.val (run_load1 Try.isAgg22 rfl ((h.readsTo C2).elem (i := i) (vs := [.slice y.1 y.2.2.length y.2.1]) (by omega) (row_v hy) 0 _ rfl)) rfl rfl ?_
                    refine WL.eff (eff_mkSlice (zl := [.slice none 0 0]) (out := [.slice _ _ _]) h Try.underlying23 Try.sizeOf22 Try.zeroValue22 (by decide) (by kernel_rfl) rfl rfl (by simp) (⟨⟨_, _, rfl, rfl, by decide⟩, trivial⟩) rfl rfl (by simp [maxLen])) rfl rfl ?_
                    rintro _ w ⟨b149, rfl, h⟩
                    refine WL.eff (eff_app (bytes := 24) (c2 := 1) h rfl rfl (h.cellsO (v := .slice (some ⟨b149, 0, none⟩) 1 1)) Try.underlying23 rfl rfl rfl rfl rfl (by omega) (by omega) (by simp [Value.oneCell'])) rfl rfl ?_
                    rintro _ w ⟨a150, c150, rfl, h⟩
                    refine WL.val run_assign rfl rfl ?_
                    refine WL.nil ?_
                    refine W.region ?_
                    refine WL.val run_move rfl rfl ?_
                    refine WL.val (run_incN rfl rfl (by omega)) rfl rfl ?_
                    refine WL.val run_assign rfl rfl ?_
                    refine WL.nil ?_
                    -- round, path FFFLFLTF
                    have e1 := rows_takeB hy
                    have e2 := rows_take hy BX.v
                    have e3 : (l0.take n1 ++ l2.take (i + 1)).map BX.v = (l0.take n1 ++ l2.take i).map BX.v ++ [.slice y.1 y.2.2.length y.2.1] := by rw [List.map_append, e2, ← List.append_assoc, ← List.map_append]; rfl
                    have e4 : (l0.take n1 ++ l2.take (i + 1)).map BX.b = (l0.take n1 ++ l2.take i).map BX.b ++ [y.b] := by rw [List.map_append, e1, ← List.append_assoc, ← List.map_append]
                    rw [← e3] at h
                    have h2 : On W0 (Own 1 (.slice a150 (n1 + i + 1) c150) (n1 + i + 1) ((l0.take n1 ++ l2.take (i + 1)).map BX.v) :: RingP 130 bs b (keepR (rgF (g0R 0 12 1 0 2) ((l0.take n1 ++ l2.take i).map BX.b)) y.b) :: DiskP 106 110 b d' :: F) w := h.to
                    rw [← rgF_app, ← e4] at h2
                    exact ⟨i + 1, ⟨by omega, _, a150, c150, d', mkE_of ⟨rfl, rfl, rfl, rfl, rfl, rfl, trivial⟩, (by rw [List.take_add_one, hy]; exact hS2), by omega, h2⟩, by show l2.length - (i + 1) < l2.length - i; omega⟩
                · skip
                  refine WL.val run_move rfl rfl ?_
                  refine WL.skip rfl rfl ?_
                  refine WL.skip rfl rfl ?_
                  refine WL.skip rfl rfl ?_
                  refine WL.skip rfl rfl ?_
                  refine WL.val (run_pickF rfl) rfl rfl ?_
                  refine WL.nil ?_
                  refine W.condF rfl ?_
                  refine W.exit ?_
                  refine W.seq ?_
                  refine W.seq ?_
                  have ob_ : i = l2.length := by omega
                  obtain rfl := ob_
                  have htk : l2.take l2.length = l2 := List.take_length
                  rw [htk] at S h
                  have hNl : (l0.take n1 ++ l2).length = n1 + l2.length := by rw [List.length_append, hnt]
                  have hb2 := lbs_bytes (l0.take n1) l2
                  have hC3 := S.later (by rw [hnt]; omega) (by rw [hnt]; omega)
                  have hdn := S.n
                  refine W.region ?_
                  refine WL.val run_move rfl rfl ?_
                  refine WL.eff (eff_call Try.call36 (flush_found (br := bs) (g := (rgF (g0R 0 12 1 0 2) ((l0.take n1 ++ l2).map BX.b))) S.live (by omega) ((h.fetch (DiskP 106 110 b d)).fetch (RingP 130 bs b (rgF (g0R 0 12 1 0 2) ((l0.take n1 ++ l2).map BX.b)))))) rfl rfl ?_
                  rintro _ w ⟨rfl, d2, l2_, f2, n2, c2_, rd2, h⟩
                  have hC4 := hC3.same rd2
                  refine WL.val (run_neqF rfl rfl (rfl)) rfl rfl ?_
                  refine WL.nil ?_
                  refine W.condF rfl ?_
                  refine W.skip ?_
                  refine W.seq ?_
                  refine W.region ?_
                  refine WL.val run_move rfl rfl ?_
                  refine WL.eff (eff_call Try.call19 (crashP (d := d2) (picks := []) (ap := none) (cp := 0) (by omega) (h.fetch (DiskP 106 110 b d2)) Gives.nilC)) rfl rfl ?_
                  rintro _ w h
                  refine WL.nil ?_
                  refine W.seq ?_
                  refine W.region ?_
                  refine WL.val run_move rfl rfl ?_
                  refine WL.eff (eff_call Try.call20 (don_ok (d := (crashD d2 [])) h)) rfl rfl ?_
                  rintro _ w h
                  have h : On W0 (DiskP 106 110 b (onD (crashD d2 [])) :: _) w := h
                  rw [flat_on l2_ f2] at h
                  refine WL.nil ?_
                  refine W.seq ?_
                  refine W.region ?_
                  refine WL.val run_move rfl rfl ?_
                  refine WL.eff (eff_call Try.call34 (ropen_row (at_ := 0) (n := 12) (first := 1) (place := 0) (life := 3) hb2 hC4 (by decide) (by decide) (by decide) (by decide) (by decide) (by decide) l2_.st (by omega) h)) rfl rfl ?_
                  rintro v160 w ⟨bz, az, hv160, h⟩
                  rw [List.length_map, hNl] at hv160
                  subst hv160
                  refine WL.val run_move rfl rfl ?_
                  refine WL.val (run_extract rfl rfl) rfl rfl ?_
                  refine WL.val (run_extract rfl rfl) rfl rfl ?_
                  refine WL.val (run_extract rfl rfl) rfl rfl ?_
                  refine WL.val run_assign rfl rfl ?_
                  refine WL.val run_assign rfl rfl ?_
                  refine WL.val run_assign rfl rfl ?_
                  refine WL.nil ?_
                  refine W.cut (fun env w => ∃ (j : Env), env = mkE j [(18, .slice aw (n1 + l2.length) cw), (23, .slice az (n1 + l2.length) (n1 + l2.length))] ∧ On W0 (OutP az (n1 + l2.length) ((l0.take n1 ++ l2).map BX.b) :: Own 1 (.slice aw (n1 + l2.length) cw) (n1 + l2.length) ((l0.take n1 ++ l2).map BX.v) :: F) w) ?_ ?_
                  · skip
                    refine W.seq ?_
                    refine W.region ?_
                    refine WL.val run_move rfl rfl ?_
                    refine WL.val (run_neqF rfl rfl (rfl)) rfl rfl ?_
                    refine WL.val run_move rfl rfl ?_
                    refine WL.val run_move rfl rfl ?_
                    refine WL.val (run_lenSlice Try.underlying23 rfl) rfl rfl ?_
                    refine WL.dec (run_gtr rfl rfl) rfl rfl (fun c169 => ?_) (fun c169 => ?_)
                    · skip
                      refine WL.val run_move rfl rfl ?_
                      refine WL.val run_move rfl rfl ?_
                      refine WL.val (run_lenSlice Try.underlying23 rfl) rfl rfl ?_
                      refine WL.val run_move rfl rfl ?_
                      refine WL.val (run_lenSlice Try.underlying23 rfl) rfl rfl ?_
                      refine WL.val (run_neqF rfl rfl (rfl)) rfl rfl ?_
                      refine WL.val (run_pickT rfl) rfl rfl ?_
                      refine WL.val (run_pickF rfl) rfl rfl ?_
                      refine WL.val run_move rfl rfl ?_
                      refine WL.val run_move rfl rfl ?_
                      refine WL.val (run_lenSlice Try.underlying23 rfl) rfl rfl ?_
                      refine WL.val run_move rfl rfl ?_
                      refine WL.val (run_lenSlice Try.underlying23 rfl) rfl rfl ?_
                      refine WL.val (run_lssF rfl rfl (by omega)) rfl rfl ?_
                      refine WL.val (run_pickF rfl) rfl rfl ?_
                      refine WL.nil ?_
                      refine W.condF rfl ?_
                      refine W.skip ?_
                      -- to the cut, path FFFLFLFT
                      rw [List.length_map, hNl] at h
                      exact ⟨_, mkE_of ⟨rfl, rfl, trivial⟩, h.to⟩
                    · skip
                      refine WL.val run_move rfl rfl ?_
                      refine WL.skip rfl rfl ?_
                      refine WL.skip rfl rfl ?_
                      refine WL.skip rfl rfl ?_
                      refine WL.skip rfl rfl ?_
                      refine WL.skip rfl rfl ?_
                      refine WL.val (run_pickF rfl) rfl rfl ?_
                      refine WL.val (run_pickF rfl) rfl rfl ?_
                      refine WL.val run_move rfl rfl ?_
                      refine WL.val run_move rfl rfl ?_
                      refine WL.val (run_lenSlice Try.underlying23 rfl) rfl rfl ?_
                      refine WL.val run_move rfl rfl ?_
                      refine WL.val (run_lenSlice Try.underlying23 rfl) rfl rfl ?_
                      refine WL.val (run_lssF rfl rfl (by omega)) rfl rfl ?_
                      refine WL.val (run_pickF rfl) rfl rfl ?_
                      refine WL.nil ?_
                      refine W.condF rfl ?_
                      refine W.skip ?_
                      -- to the cut, path FFFLFLFF
                      rw [List.length_map, hNl] at h
                      exact ⟨_, mkE_of ⟨rfl, rfl, trivial⟩, h.to⟩
                  · clear h S
                    rintro env w ⟨j, rfl, h⟩
                    refine W.seq ?_
                    refine W.seq ?_
                    refine W.region ?_
                    refine WL.val run_assign rfl rfl ?_
                    refine WL.nil ?_
                    have ob_ := openO h
                    obtain ⟨ws, pool, hws, hpl, h⟩ := ob_
                    rw [List.length_map, hNl] at h
                    refine W.block ?_
                    refine W.loop (fun (k : Nat) env w => k ≤ n1 + l2.length ∧ ∃ (j : Env), env = mkE j [(18, .slice aw (n1 + l2.length) cw), (23, .slice az (n1 + l2.length) (n1 + l2.length)), (25, .int .i64 (k : Nat))] ∧ On W0 (Own 1 (.slice az (n1 + l2.length) (n1 + l2.length)) (n1 + l2.length) (ws.map (·.1)) :: Pool pool :: Own 1 (.slice aw (n1 + l2.length) cw) (n1 + l2.length) ((l0.take n1 ++ l2).map BX.v) :: F) w) (fun k => n1 + l2.length - k) (0) ?_ ?_
                    · exact ⟨Nat.zero_le _, _, mkE_of ⟨rfl, rfl, rfl, trivial⟩, h.to⟩
                    · clear h
                      rintro k env w ⟨hkl, j, rfl, h⟩
                      refine W.seq ?_
                      refine W.seq ?_
                      refine W.region ?_
                      refine WL.val run_move rfl rfl ?_
                      refine WL.val run_move rfl rfl ?_
                      refine WL.val (run_lenSlice Try.underlying23 rfl) rfl rfl ?_
                      refine WL.val (run_lss rfl rfl) rfl rfl ?_
                      refine WL.nil ?_
                      refine W.condIf rfl (fun c86 => ?_) (fun c86 => ?_)
                      · skip
                        refine W.skip ?_
                        refine W.seq ?_
                        refine W.block ?_
                        refine W.seq ?_
                        have hk2 : k < n1 + l2.length := by omega
                        have ob_ : ∃ q, (l0.take n1 ++ l2)[k]? = some q := ⟨(l0.take n1 ++ l2)[k]'(by omega), List.getElem?_eq_getElem _⟩
                        obtain ⟨q, hq⟩ := ob_
                        have hqB : Gives F (Bytes q.v q.b) := by
                          have ob_ := List.mem_append.1 (List.mem_of_getElem? hq)
                          rcases ob_ with hh | hh
                          · exact B0 q (List.mem_of_mem_take hh)
                          · exact B2 q hh
                        have hqb : ((l0.take n1 ++ l2).map BX.b)[k]? = some q.b := by rw [List.getElem?_map, hq]; rfl
                        have ob_ := out_elem hws hpl hqb
                        obtain ⟨vq, hvq, hvp⟩ := ob_
                        have ob7_ := hvp.form (h.fetch (Pool pool))
                        obtain ⟨aq, cq, hqv, _, _⟩ := ob7_
                        subst hqv
                        have gq := hvp.gives (L := [])
                        have ob8_ := Own.addr h (by omega)
                        obtain ⟨bz1, oz1, haz⟩ := ob8_
                        subst haz
                        have ob9_ := Own.addr (h.fetch (Own 1 (.slice aw (n1 + l2.length) cw) (n1 + l2.length) ((l0.take n1 ++ l2).map BX.v))) (by omega)
                        obtain ⟨bw1, ow1, haw⟩ := ob9_
                        subst haw
                        refine W.draw Try.follows h (fun w h => ?_)
                        refine WT.pure 0 rfl (by kernel_rfl) (fun w' => run_move) rfl rfl ?_
                        refine WT.pure 1 rfl (by kernel_rfl) (fun w' => run_move) rfl rfl ?_
                        refine WT.pure 2 rfl (by kernel_rfl) (fun w' => (run_indexAddr Try.underlying23 Try.sizeOf22 rfl rfl (by omega) (by omega))) rfl rfl ?_
                        refine WT.load1 3 rfl (by kernel_rfl) Try.isAgg22 rfl ((h.cellsO (v := .slice (some ⟨bz1, oz1, none⟩) (n1 + l2.length) (n1 + l2.length))).elem (i := k) (vs := [.slice aq q.b.length cq]) (by omega) (one_row hvq) 0 _ rfl) rfl rfl ?_
                        refine WT.take 4 (fun w => Bytes (.slice aq q.b.length cq) (q.b) (hp w)) rfl (by kernel_rfl) rfl rfl (h.readsTo gq) (fun w' hC => run_bytesStr Try.underlying22 Try.underlying5 Try.underlying9 rfl hC) ?_
                        refine WT.pure 5 rfl (by kernel_rfl) (fun w' => run_move) rfl rfl ?_
                        refine WT.pure 6 rfl (by kernel_rfl) (fun w' => run_move) rfl rfl ?_
                        refine WT.pure 7 rfl (by kernel_rfl) (fun w' => (run_indexAddr Try.underlying23 Try.sizeOf22 rfl rfl (by omega) (by omega))) rfl rfl ?_
                        refine WT.load1 8 rfl (by kernel_rfl) Try.isAgg22 rfl ((h.cellsO (v := .slice (some ⟨bw1, ow1, none⟩) (n1 + l2.length) cw)).elem (i := k) (vs := [.slice q.1 q.2.2.length q.2.1]) (by omega) (row_v hq) 0 _ rfl) rfl rfl ?_
                        refine WT.take 9 (fun w => Bytes (.slice q.1 q.2.2.length q.2.1) (q.2.2) (hp w)) rfl (by kernel_rfl) rfl rfl (h.readsTo (gBX hqB)) (fun w' hC => run_bytesStr Try.underlying22 Try.underlying5 Try.underlying9 rfl hC) ?_
                        refine WT.pure 10 rfl (by kernel_rfl) (fun w' => (run_neqStrF rfl rfl rfl)) rfl rfl ?_
                        refine WT.done (by kernel_rfl) ?_
                        refine W.condF rfl ?_
                        refine W.skip ?_
                        refine W.region ?_
                        refine WL.val run_move rfl rfl ?_
                        refine WL.val (run_incN rfl rfl (by omega)) rfl rfl ?_
                        refine WL.val run_assign rfl rfl ?_
                        refine WL.nil ?_
                        -- round, path FFFLFLFLT
                        exact ⟨k + 1, ⟨by omega, _, mkE_of ⟨rfl, rfl, rfl, trivial⟩, h.to⟩, by show n1 + l2.length - (k + 1) < n1 + l2.length - k; omega⟩
                      · skip
                        refine W.exit ?_
                        refine W.seq ?_
                        refine W.region ?_
                        refine WL.val run_move rfl rfl ?_
                        refine WL.val (run_lenSlice Try.underlying23 rfl) rfl rfl ?_
                        refine WL.val run_move rfl rfl ?_
                        refine WL.val (run_lenSlice Try.underlying23 rfl) rfl rfl ?_
                        refine WL.val (run_eqlT rfl rfl (rfl)) rfl rfl ?_
                        refine WL.val run_assign rfl rfl ?_
                        refine WL.nil ?_
                        refine W.ret ?_
                        refine bodyQ.r1 (v := .bool _) Try.results7 rfl ?_
                        -- path FFFLFLFLF
                        exact ⟨rfl, h.to⟩

end Go.Proofs.Ytlahgihjjabgmaa
