/-
  RingFull. Lines of walks printed by a program of the prover's.
-/
import Derived.Test.YtlahgihjjabgmaaRing5
namespace Go.Proofs.Ytlahgihjjabgmaa
open Go Go.Sl Go.Sl.ByM Go.Sl.DkM Go.Sl.TwM Go.Sl.RgM
set_option linter.unusedVariables false
set_option linter.unusedSimpArgs false
set_option maxHeartbeats 1000000
set_option maxRecDepth 8000
variable {W0 w : World} {L F : List HProp}

theorem append_any {br b : Nat} {g : Rg} {ax : Option Addr} {cx : Nat} {bb : List UInt8} {d : Dk} (hl : Live d) (hlow : d.calls + g.n ≤ 1000000000000) (hin : ((g.at_ + g.n : Nat) : Int) ≤ d.n) (hb : bb.length ≤ 32768) (hf : g.first + g.l.length + 1 ≤ 9000000000000000000) (h : On W0 (RingP 130 br b g :: DiskP 106 110 b d :: L) w) (C : Gives L (Bytes (.slice ax bb.length cx) bb)) : Calls Try.prog 35 #[.pointer (some ⟨br, 0, none⟩), .slice ax bb.length cx] w (Ret fun v w' => ∃ (ok : Bool) (num : Nat) (d2 : Dk), v = .tuple #[.int .u64 (num : Int), .int .i64 (cond ok 0 7)] ∧ (ok = true → g.used + needR bb.length ≤ g.n) ∧ (ok = false → g.n < g.used + needR bb.length) ∧ Live d2 ∧ d2.n = d.n ∧ d2.calls ≤ d.calls + cond ok (g.n : Int) 0 ∧ On W0 (RingP 130 br b (cond ok (keepR g bb) g) :: DiskP 106 110 b d2 :: L) w') := (append_ok hl hlow hin (by omega) hf h C).mono fun e w' he => by
  obtain ⟨v, he, hv⟩ := he
  refine ⟨v, he, ?_⟩
  have hok := ringOk h
  have hn2 := hok.n2
  obtain ⟨l1, l2, l3⟩ := app_live (place := g.place) (number := g.next) (life := g.life) (b := bb) hl (by omega) hin (needR bb.length)
  rcases hv with ⟨hh, _⟩ | ⟨_, hh, hv, h⟩ | ⟨_, hh, hv, h⟩
  · omega
  · exact ⟨false, 0, d, hv, (fun e => by cases e), (fun _ => hh), hl, rfl, by show d.calls ≤ d.calls + 0; omega, h⟩
  · exact ⟨true, g.next, _, hv, (fun _ => hh), (fun e => by cases e), l1, l2, by rw [l3]; show d.calls + _ ≤ d.calls + (g.n : Int); omega, h⟩

def needsV (l : List LB) : List Value := l.map fun x => .int .i64 (needR x.2.length : Int)
theorem needs_get {l : List LB} {k : Nat} {x : LB} (h : l[k]? = some x) : (needsV l)[k]? = some (.int .i64 (needR x.2.length : Int)) := by unfold needsV; rw [List.getElem?_map, h]; rfl

theorem gfull_ok {sectors : Int} {a1 : Option Addr} {c1 : Nat} {l : List Int} (hwf : ∀ x ∈ l, 0 ≤ x ∧ x ≤ 65535) (h : On W0 F w) (C : Gives F (Cells 1 (.slice a1 l.length c1) l.length (l.map (.int .u16)))) : Calls Try.prog 9 #[.int .i64 sectors, .slice a1 l.length c1] w (Ret fun v w' => v = .bool true ∧ On W0 F w') := by
  refine enter Try.func9 rfl Try.ntmps9 rfl ?_
  refine W.seq ?_
  refine W.region ?_
  refine WL.val run_assign rfl rfl ?_
  refine WL.nil ?_
  refine W.seq ?_
  refine W.seq ?_
  refine W.region ?_
  refine WL.eff (eff_call Try.call33 (gknown_ok h)) rfl rfl ?_
  rintro _ w ⟨rfl, h⟩
  refine WL.val (run_not rfl) rfl rfl ?_
  refine WL.nil ?_
  refine W.condF rfl ?_
  refine W.skip ?_
  refine W.seq ?_
  refine W.seq ?_
  refine W.region ?_
  refine WL.val run_move rfl rfl ?_
  refine WL.dec (run_lss rfl rfl) rfl rfl (fun c22 => ?_) (fun c22 => ?_)
  · skip
    refine WL.val run_move rfl rfl ?_
    refine WL.skip rfl rfl ?_
    refine WL.skip rfl rfl ?_
    refine WL.val (run_pickT rfl) rfl rfl ?_
    refine WL.val run_move rfl rfl ?_
    refine WL.skip rfl rfl ?_
    refine WL.skip rfl rfl ?_
    refine WL.skip rfl rfl ?_
    refine WL.val (run_pickT rfl) rfl rfl ?_
    refine WL.nil ?_
    refine W.condT rfl ?_
    refine W.seq ?_
    refine W.region ?_
    refine WL.val run_assign rfl rfl ?_
    refine WL.nil ?_
    refine W.ret ?_
    refine bodyQ.r1 (v := .bool _) Try.results9 rfl ?_
    -- path T
    exact ⟨rfl, h.to⟩
  · skip
    refine WL.val run_move rfl rfl ?_
    refine WL.val run_move rfl rfl ?_
    refine WL.dec (run_gtr rfl rfl) rfl rfl (fun c25 => ?_) (fun c25 => ?_)
    · skip
      refine WL.val (run_pickF rfl) rfl rfl ?_
      refine WL.val run_move rfl rfl ?_
      refine WL.skip rfl rfl ?_
      refine WL.skip rfl rfl ?_
      refine WL.skip rfl rfl ?_
      refine WL.val (run_pickT rfl) rfl rfl ?_
      refine WL.nil ?_
      refine W.condT rfl ?_
      refine W.seq ?_
      refine W.region ?_
      refine WL.val run_assign rfl rfl ?_
      refine WL.nil ?_
      refine W.ret ?_
      refine bodyQ.r1 (v := .bool _) Try.results9 rfl ?_
      -- path FT
      exact ⟨rfl, h.to⟩
    · skip
      refine WL.val (run_pickF rfl) rfl rfl ?_
      refine WL.val run_move rfl rfl ?_
      refine WL.val run_move rfl rfl ?_
      refine WL.val (run_lenSlice Try.underlying66 rfl) rfl rfl ?_
      refine WL.val (run_gtr rfl rfl) rfl rfl ?_
      refine WL.val (run_pickF rfl) rfl rfl ?_
      refine WL.nil ?_
      refine W.condIf rfl (fun c7 => ?_) (fun c7 => ?_)
      · skip
        refine W.seq ?_
        refine W.region ?_
        refine WL.val run_assign rfl rfl ?_
        refine WL.nil ?_
        refine W.ret ?_
        refine bodyQ.r1 (v := .bool _) Try.results9 rfl ?_
        -- path FFT
        exact ⟨rfl, h.to⟩
      · skip
        refine W.skip ?_
        refine W.seq ?_
        have hn0 := Int.eq_ofNat_of_zero_le (show 0 ≤ sectors by omega)
        obtain ⟨S, rfl⟩ := hn0
        have hS2 : 2 ≤ S := by omega
        have hS20 : S ≤ 20 := by omega
        have hl60 : l.length ≤ 60 := by omega
        have hmx := maxLen_eq
        refine W.region ?_
        refine WL.val run_move rfl rfl ?_
        refine WL.eff (eff_call Try.call16 (new_ok h)) rfl rfl ?_
        rintro _ w hv
        rcases hv with ⟨_, _, b, rfl, h⟩ | ⟨hno, _, _⟩
        rotate_left
        · exact absurd ⟨by omega, by omega⟩ hno
        refine WL.val run_move rfl rfl ?_
        refine WL.val (run_extract rfl rfl) rfl rfl ?_
        refine WL.val (run_extract rfl rfl) rfl rfl ?_
        refine WL.val run_assign rfl rfl ?_
        refine WL.val run_assign rfl rfl ?_
        refine WL.nil ?_
        refine W.seq ?_
        refine W.region ?_
        refine WL.val run_move rfl rfl ?_
        refine WL.val run_move rfl rfl ?_
        refine WL.eff (eff_call Try.call34 (rblank (d := newD (S : Int)) (at_ := 0) (n := S) (first := 1) (place := 0) (life := 1) (fun k => rfl) (by omega) (by omega) (by decide) (by omega) (by decide) (by decide) rfl (by show ((0 + S : Nat) : Int) ≤ (S : Int); omega) h)) rfl rfl ?_
        rintro _ w ⟨br, a40, rfl, h⟩
        refine WL.val run_move rfl rfl ?_
        refine WL.val (run_extract rfl rfl) rfl rfl ?_
        refine WL.val (run_extract rfl rfl) rfl rfl ?_
        refine WL.val (run_extract rfl rfl) rfl rfl ?_
        refine WL.val run_assign rfl rfl ?_
        refine WL.val run_assign rfl rfl ?_
        refine WL.val run_assign rfl rfl ?_
        refine WL.nil ?_
        refine W.seq ?_
        refine W.seq ?_
        refine W.region ?_
        refine WL.val run_move rfl rfl ?_
        refine WL.val (run_eqlPtrNil Try.underlying56 rfl rfl) rfl rfl ?_
        refine WL.nil ?_
        refine W.condF rfl ?_
        refine W.skip ?_
        refine W.seq ?_
        refine W.region ?_
        refine WL.val run_assign rfl rfl ?_
        refine WL.nil ?_
        refine W.seq ?_
        refine W.region ?_
        refine WL.val run_assign rfl rfl ?_
        refine WL.nil ?_
        refine W.seq ?_
        refine W.seq ?_
        refine W.region ?_
        refine WL.val run_assign rfl rfl ?_
        refine WL.nil ?_
        refine W.block ?_
        refine W.loop (fun (i : Nat) env w => i ≤ l.length ∧ ∃ (j : Env) (g : Rg) (ak : Option Addr) (ck : Nat) (d : Dk), env = mkE j [(0, .int .i64 (S : Int)), (1, .slice a1 l.length c1), (7, .pointer (some ⟨br, 0, none⟩)), (10, .slice ak g.l.length ck), (11, .int .i64 (g.used : Int)), (12, .int .i64 (i : Nat))] ∧ g.n = S ∧ g.at_ = 0 ∧ g.first + g.l.length ≤ i + 1 ∧ Live d ∧ d.n = (S : Int) ∧ d.calls ≤ 20 * (i : Nat) ∧ On W0 (RingP 130 br b g :: DiskP 106 110 b d :: Own 1 (.slice ak g.l.length ck) g.l.length (needsV g.l) :: F) w) (fun i => l.length - i) (0) ?_ ?_
        · have h0 : On W0 (RingP 130 br b (g0R 0 S 1 0 1) :: DiskP 106 110 b (newD (S : Int)) :: Own 1 (.slice none 0 0) 0 [] :: F) w := (h.ownEmpty 1 none).to
          exact ⟨Nat.zero_le _, _, (g0R 0 S 1 0 1), none, 0, newD (S : Int), mkE_of ⟨rfl, rfl, rfl, rfl, rfl, rfl, trivial⟩, rfl, rfl, by show 1 + 0 ≤ 0 + 1; decide, newLive _, rfl, by show (0 : Int) ≤ 20 * ((0 : Nat) : Int); decide, h0⟩
        · rintro i env w ⟨hi, j, g, ak, ck, d, rfl, hgn, hg0, hgf, hli, hdn, hdc, h⟩
          have hgok := ringOk h
          have hgn2 := hgok.n2
          have hguse := hgok.used
          refine W.seq ?_
          refine W.seq ?_
          refine W.region ?_
          refine WL.val run_move rfl rfl ?_
          refine WL.val run_move rfl rfl ?_
          refine WL.val (run_lenSlice Try.underlying66 rfl) rfl rfl ?_
          refine WL.val (run_lss rfl rfl) rfl rfl ?_
          refine WL.nil ?_
          refine W.condIf rfl (fun c24 => ?_) (fun c24 => ?_)
          · skip
            refine W.skip ?_
            refine W.seq ?_
            refine W.block ?_
            refine W.seq ?_
            have hi2 : i < l.length := by omega
            have ob_ : ∃ z, l[i]? = some z := ⟨l[i]'hi2, List.getElem?_eq_getElem _⟩
            obtain ⟨z, hz⟩ := ob_
            have ob_ := hwf z (List.mem_of_getElem? hz)
            obtain ⟨hz0, hz1⟩ := ob_
            have ob_ := Int.eq_ofNat_of_zero_le hz0
            obtain ⟨q, rfl⟩ := ob_
            have ob_ : ∃ bb : List UInt8, bb = List.replicate (q % 3000) 0 := ⟨_, rfl⟩
            obtain ⟨bb, hbb⟩ := ob_
            have hbl : q % 3000 = bb.length := by rw [hbb, List.length_replicate]
            have hzb : List.replicate bb.length (Value.int .u8 0) = bytesV bb := by rw [← hbl, hbb, zerosB]
            have hbs : bb.length < 3000 := by omega
            have ob_ := Cells.addr (h.readsTo C) (by omega)
            obtain ⟨ba, oa, haa⟩ := ob_
            subst haa
            have hrow : ((l.map (Value.int .u16)).drop (i * 1)).take 1 = [.int .u16 (q : Int)] := one_row (by rw [List.getElem?_map, hz]; rfl)
            refine W.region ?_
            refine WL.val run_move rfl rfl ?_
            refine WL.val run_move rfl rfl ?_
            refine WL.val (run_indexAddr Try.underlying66 Try.sizeOf67 rfl rfl (by omega) (by omega)) rfl rfl ?_
            refine WL.val (run_load1 Try.isAgg67 rfl ((h.readsTo C).elem (i := i) (vs := [.int .u16 (q : Int)]) (by omega) hrow 0 _ rfl)) rfl rfl ?_
            refine WL.val (run_convIn Try.underlying67 Try.underlying3 rfl (by show (-9223372036854775808 : Int) ≤ _; omega) (by show _ ≤ (9223372036854775807 : Int); omega)) rfl rfl ?_
            refine WL.val (run_remNV (m := q) (n := 3000) rfl rfl (by decide) hbl) rfl rfl ?_
            refine WL.val run_assign rfl rfl ?_
            refine WL.nil ?_
            refine W.seq ?_
            refine W.region ?_
            refine WL.val run_move rfl rfl ?_
            refine WL.eff (eff_call Try.call39 (rneed_ok (n := bb.length) (by omega) h)) rfl rfl ?_
            rintro _ w ⟨rfl, h⟩
            refine WL.val run_assign rfl rfl ?_
            refine WL.nil ?_
            refine W.seq ?_
            refine W.seq ?_
            refine W.region ?_
            refine WL.val run_move rfl rfl ?_
            refine WL.val run_move rfl rfl ?_
            refine WL.eff (eff_call Try.call40 (need_ok (n := bb.length) (by omega) h)) rfl rfl ?_
            rintro _ w ⟨rfl, h⟩
            refine WL.val (run_neqF rfl rfl (rfl)) rfl rfl ?_
            refine WL.nil ?_
            refine W.condF rfl ?_
            refine W.skip ?_
            refine W.seq ?_
            refine W.region ?_
            refine WL.val run_move rfl rfl ?_
            refine WL.val run_move rfl rfl ?_
            refine WL.eff (eff_make (n := bb.length) (bytes := 1) h rfl rfl Try.underlying22 rfl rfl rfl rfl rfl (by omega) (by omega)) rfl rfl ?_
            rintro _ w ⟨b67, rfl, h⟩
            rw [hzb] at h
            refine WL.eff (eff_call Try.call35 (append_any (g := g) (bb := bb) (d := d) hli (by omega) (by omega) (by omega) (by omega) ((h.fetch (DiskP 106 110 b d)).fetch (RingP 130 br b g)) (Gives.ownO (v := .slice (some ⟨b67, 0, none⟩) bb.length bb.length)))) rfl rfl ?_
            rintro _ w ⟨ok, num, d2, rfl, hok1, hok2, hl2, hn2, hc2, h⟩
            refine WL.val run_move rfl rfl ?_
            refine WL.val (run_extract rfl rfl) rfl rfl ?_
            refine WL.val (run_extract rfl rfl) rfl rfl ?_
            refine WL.val run_assign rfl rfl ?_
            refine WL.val run_assign rfl rfl ?_
            refine WL.nil ?_
            refine W.seq ?_
            refine W.block ?_
            refine W.loop (fun (len : Nat) env w => ∃ (j : Env) (g : Rg) (ak : Option Addr) (ck : Nat) (d : Dk) (ok : Bool), g.l.length = len ∧ env = mkE j [(0, .int .i64 (S : Int)), (1, .slice (some ⟨ba, oa, none⟩) l.length c1), (7, .pointer (some ⟨br, 0, none⟩)), (10, .slice ak g.l.length ck), (11, .int .i64 (g.used : Int)), (12, .int .i64 (i : Nat)), (13, .int .i64 (bb.length : Int)), (14, .int .i64 (needR bb.length : Int)), (16, .int .i64 (cond ok 0 7))] ∧ g.ok ∧ (ok = true → g.used + needR bb.length ≤ S) ∧ (ok = false → S < g.used + needR bb.length) ∧ g.n = S ∧ g.at_ = 0 ∧ g.first + g.l.length ≤ i + 1 ∧ Live d ∧ d.n = (S : Int) ∧ d.calls ≤ 20 * (i : Nat) + cond ok 20 0 ∧ On W0 (RingP 130 br b (cond ok (keepR g bb) g) :: DiskP 106 110 b d :: Own 1 (.slice ak g.l.length ck) g.l.length (needsV g.l) :: F) w) (fun len => len) (g.l.length) ?_ ?_
            · exact ⟨_, g, ak, ck, d2, ok, rfl, mkE_of ⟨rfl, rfl, rfl, rfl, rfl, rfl, rfl, rfl, rfl, trivial⟩, hgok, (fun e => by have := hok1 e; omega), (fun e => by have := hok2 e; omega), hgn, hg0, hgf, hl2, by omega, by cases ok <;> simp at hc2 ⊢ <;> omega, h.to⟩
            · clear h hok1 hok2 hl2 hn2 hc2 hli hdn hdc
              rintro len env w ⟨j, g, ak, ck, d, ok, hlen, rfl, hgok, hok1, hok2, hgn, hg0, hgf, hli, hdn, hdc, h⟩
              have hused := hgok.used
              have hgll := len_used g.l
              have hgsum := hgok.sum
              refine W.seq ?_
              refine W.seq ?_
              refine W.region ?_
              refine WL.val run_move rfl rfl ?_
              refine WL.dec (run_eql rfl rfl) rfl rfl (fun c72 => ?_) (fun c72 => ?_)
              · skip
                have ob_ : ok = false := by cases ok; rfl; exact absurd c72 (by decide)
                obtain rfl := ob_
                have h : On W0 (RingP 130 br b g :: DiskP 106 110 b d :: Own 1 (.slice ak g.l.length ck) g.l.length (needsV g.l) :: F) w := h
                have hno := hok2 rfl
                have hdc : d.calls ≤ 20 * ((i : Nat) : Int) + 0 := hdc
                refine WL.val run_move rfl rfl ?_
                refine WL.val run_move rfl rfl ?_
                refine WL.val (run_lenSlice Try.underlying24 rfl) rfl rfl ?_
                refine WL.dec (run_gtr rfl rfl) rfl rfl (fun c76 => ?_) (fun c76 => ?_)
                · skip
                  refine WL.val (run_pickT rfl) rfl rfl ?_
                  refine WL.val run_move rfl rfl ?_
                  refine WL.val run_move rfl rfl ?_
                  refine WL.val run_move rfl rfl ?_
                  refine WL.val (run_leq rfl rfl) rfl rfl ?_
                  refine WL.val (run_pickT rfl) rfl rfl ?_
                  refine WL.nil ?_
                  refine W.condIf rfl (fun c39 => ?_) (fun c39 => ?_)
                  · skip
                    refine W.skip ?_
                    refine W.block ?_
                    refine W.seq ?_
                    refine W.seq ?_
                    refine W.region ?_
                    refine WL.val run_move rfl rfl ?_
                    refine WL.val run_move rfl rfl ?_
                    refine WL.val (run_add rfl rfl (by omega) (by omega)) rfl rfl ?_
                    refine WL.val run_move rfl rfl ?_
                    refine WL.val (run_leq rfl rfl) rfl rfl ?_
                    refine WL.nil ?_
                    refine W.condIf rfl (fun c44 => ?_) (fun c44 => ?_)
                    · skip
                      omega
                    · skip
                      refine W.skip ?_
                      refine W.seq ?_
                      have ob_ : ∃ x, g.l[0]? = some x := ⟨g.l[0]'(by omega), by simp⟩
                      obtain ⟨x, hx⟩ := ob_
                      have htr := (hgok.trim (fun e0 => by rw [e0] at hx; cases hx))
                      obtain ⟨hgt, htr⟩ := htr
                      rw [head_of hx] at htr
                      have htf : (trimR g).first = g.first + 1 := rfl
                      have htn : (trimR g).n = g.n := rfl
                      have hta : (trimR g).at_ = g.at_ := rfl
                      have htl : (trimR g).l.length = g.l.length - 1 := List.length_tail
                      have htu : (trimR g).used = g.used - needR x.2.length := by omega
                      have ob5_ := Own.addr (h.fetch (Own 1 (.slice ak g.l.length ck) g.l.length (needsV g.l))) (by omega)
                      obtain ⟨bk, ok_, hak⟩ := ob5_
                      subst hak
                      refine W.region ?_
                      refine WL.val run_move rfl rfl ?_
                      refine WL.eff (eff_call Try.call41 (rfirst_ok h)) rfl rfl ?_
                      rintro _ w ⟨rfl, h⟩
                      refine WL.val run_move rfl rfl ?_
                      refine WL.val (run_extract rfl rfl) rfl rfl ?_
                      refine WL.val (run_extract rfl rfl) rfl rfl ?_
                      refine WL.val run_assign rfl rfl ?_
                      refine WL.val run_assign rfl rfl ?_
                      refine WL.nil ?_
                      refine W.seq ?_
                      refine W.seq ?_
                      refine W.region ?_
                      refine WL.val run_move rfl rfl ?_
                      refine WL.val run_move rfl rfl ?_
                      refine WL.val (run_addK (k := .u64) (m := g.first) (n := 1) rfl rfl (Int.ofNat_le.2 (show _ ≤ 18446744073709551615 by omega))) rfl rfl ?_
                      refine WL.eff (eff_call Try.call42 (rtrim_ok (g := g) (k := 1) (by omega) h)) rfl rfl ?_
                      rintro _ w ⟨rfl, h⟩
                      have h : On W0 (RingP 130 br b (trimR g) :: DiskP 106 110 b d :: Own 1 (.slice (some ⟨bk, ok_, none⟩) g.l.length ck) g.l.length (needsV g.l) :: F) w := h
                      refine WL.val (run_neqF rfl rfl (rfl)) rfl rfl ?_
                      refine WL.nil ?_
                      refine W.condF rfl ?_
                      refine W.skip ?_
                      refine W.seq ?_
                      refine W.region ?_
                      refine WL.val run_move rfl rfl ?_
                      refine WL.val run_move rfl rfl ?_
                      refine WL.val (run_indexAddr Try.underlying24 Try.sizeOf3 rfl rfl (by omega) (by omega)) rfl rfl ?_
                      refine WL.val (run_load1 Try.isAgg3 rfl ((h.cellsO (v := .slice (some ⟨bk, ok_, none⟩) g.l.length ck)).elem (i := 0) (vs := [.int .i64 (needR x.2.length : Int)]) (by omega) (one_row (needs_get hx)) 0 _ rfl)) rfl rfl ?_
                      refine WL.val (run_subN (m := g.used) (n := needR x.2.length) rfl rfl (by omega) (by omega)) rfl rfl ?_
                      refine WL.val run_assign rfl rfl ?_
                      refine WL.nil ?_
                      refine W.seq ?_
                      have ob_ : ∃ a' c', sliced (some ⟨bk, ok_, none⟩) 1 g.l.length ck 1 = .slice a' (g.l.length - 1) c' ∧ On W0 (Own 1 (.slice a' (g.l.length - 1) c') (g.l.length - 1) ((needsV g.l).drop (1 * 1)) :: RingP 130 br b (trimR g) :: DiskP 106 110 b d :: F) w := ⟨_, _, sliced_tail .., by
                        have h2 := Own.tail (l := 1) (h.fetch (Own 1 (.slice (some ⟨bk, ok_, none⟩) g.l.length ck) g.l.length (needsV g.l))) (by omega)
                        exact h2⟩
                      obtain ⟨ak2, ck2, hcut, h⟩ := ob_
                      have hnt : (needsV g.l).drop (1 * 1) = needsV (trimR g).l := by
                        show (needsV g.l).drop 1 = needsV g.l.tail
                        cases g.l <;> rfl
                      rw [hnt] at h
                      refine W.region ?_
                      refine WL.val run_move rfl rfl ?_
                      refine WL.val (run_cutLV (l := 1) Try.underlying24 Try.sizeOf3 rfl rfl (by omega) hcut) rfl rfl ?_
                      refine WL.val run_assign rfl rfl ?_
                      refine WL.nil ?_
                      refine W.region ?_
                      refine WL.val run_move rfl rfl ?_
                      refine WL.val run_move rfl rfl ?_
                      refine WL.eff (eff_make (n := bb.length) (bytes := 1) h rfl rfl Try.underlying22 rfl rfl rfl rfl rfl (by omega) (by omega)) rfl rfl ?_
                      rintro _ w ⟨b108, rfl, h⟩
                      rw [hzb] at h
                      refine WL.eff (eff_call Try.call35 (append_any (g := (trimR g)) (bb := bb) (d := d) hli (by omega) (by omega) (by omega) (by omega) ((h.fetch (DiskP 106 110 b d)).fetch (RingP 130 br b (trimR g))) (Gives.ownO (v := .slice (some ⟨b108, 0, none⟩) bb.length bb.length)))) rfl rfl ?_
                      rintro _ w ⟨ok, num, d2, rfl, hok1, hok2, hl2, hn2, hc2, h⟩
                      refine WL.val run_move rfl rfl ?_
                      refine WL.val (run_extract rfl rfl) rfl rfl ?_
                      refine WL.val (run_extract rfl rfl) rfl rfl ?_
                      refine WL.val run_assign rfl rfl ?_
                      refine WL.nil ?_
                      -- round, path FFFLTLTTTF
                      exact ⟨(trimR g).l.length, ⟨_, trimR g, _, _, d2, ok, rfl, mkE_of ⟨rfl, rfl, rfl, congrArg (fun k => Value.slice _ k _) htl.symm, congrArg (fun k : Nat => Value.int .i64 (k : Int)) htu.symm, rfl, rfl, rfl, rfl, trivial⟩, hgt, (fun e => by have := hok1 e; omega), (fun e => by have := hok2 e; omega), hgn, hg0, (by rw [htl]; show g.first + 1 + _ ≤ _; omega), hl2, by omega, by cases ok <;> simp at hc2 ⊢ <;> omega, (by rw [htl]; exact h.to)⟩, by show (trimR g).l.length < len; omega⟩
                  · skip
                    refine W.exit ?_
                    refine W.seq ?_
                    refine W.seq ?_
                    refine W.region ?_
                    refine WL.val run_move rfl rfl ?_
                    refine WL.val (run_eqlT rfl rfl (rfl)) rfl rfl ?_
                    refine WL.val run_move rfl rfl ?_
                    refine WL.val run_move rfl rfl ?_
                    refine WL.val (run_gtrT rfl rfl (by omega)) rfl rfl ?_
                    refine WL.val (run_neqBoolF Try.underlying4 rfl rfl rfl) rfl rfl ?_
                    refine WL.val run_move rfl rfl ?_
                    refine WL.val run_move rfl rfl ?_
                    refine WL.val (run_neqT rfl rfl (by decide)) rfl rfl ?_
                    refine WL.val run_move rfl rfl ?_
                    refine WL.val run_move rfl rfl ?_
                    refine WL.val (run_neqF rfl rfl (rfl)) rfl rfl ?_
                    refine WL.val (run_pickT rfl) rfl rfl ?_
                    refine WL.val (run_pickF rfl) rfl rfl ?_
                    refine WL.nil ?_
                    refine W.condF rfl ?_
                    refine W.skip ?_
                    refine W.seq ?_
                    refine W.seq ?_
                    refine W.region ?_
                    refine WL.val run_move rfl rfl ?_
                    refine WL.val (run_eqlF rfl rfl (by decide)) rfl rfl ?_
                    refine WL.nil ?_
                    refine W.condF rfl ?_
                    refine W.skip ?_
                    refine W.seq ?_
                    refine W.region ?_
                    refine WL.val run_move rfl rfl ?_
                    refine WL.eff (eff_call Try.call37 (rroom_ok (h.fetch (RingP 130 br b g)))) rfl rfl ?_
                    rintro _ w ⟨rfl, h⟩
                    have hrm : ((g.n - g.used : Nat) : Int) = ((S - g.used : Nat) : Int) := by rw [hgn]
                    refine WL.val run_move rfl rfl ?_
                    refine WL.val run_move rfl rfl ?_
                    refine WL.val (run_subN (m := S) (n := g.used) rfl rfl (by omega) (by omega)) rfl rfl ?_
                    refine WL.val (run_neqF rfl rfl (hrm)) rfl rfl ?_
                    refine WL.nil ?_
                    refine W.condF rfl ?_
                    refine W.skip ?_
                    refine W.region ?_
                    refine WL.val run_move rfl rfl ?_
                    refine WL.val (run_incN rfl rfl (by omega)) rfl rfl ?_
                    refine WL.val run_assign rfl rfl ?_
                    refine WL.nil ?_
                    -- round, path FFFLTLTTF
                    exact ⟨i + 1, ⟨by omega, _, g, ak, ck, d, mkE_of ⟨rfl, rfl, rfl, rfl, rfl, rfl, trivial⟩, hgn, hg0, by omega, hli, hdn, (by have hdc : d.calls ≤ 20 * (i : Int) + 0 := hdc; omega), h.to⟩, by show l.length - (i + 1) < l.length - i; omega⟩
                · skip
                  refine WL.val (run_pickT rfl) rfl rfl ?_
                  refine WL.val run_move rfl rfl ?_
                  refine WL.skip rfl rfl ?_
                  refine WL.skip rfl rfl ?_
                  refine WL.skip rfl rfl ?_
                  refine WL.val (run_pickF rfl) rfl rfl ?_
                  refine WL.nil ?_
                  refine W.condF rfl ?_
                  refine W.exit ?_
                  refine W.seq ?_
                  refine W.seq ?_
                  have hz0 : g.l = [] := List.eq_nil_of_length_eq_zero (by omega)
                  rw [hz0] at hgsum
                  have hz2 : usedR [] = 0 := rfl
                  refine W.region ?_
                  refine WL.val run_move rfl rfl ?_
                  refine WL.val (run_eqlT rfl rfl (rfl)) rfl rfl ?_
                  refine WL.val run_move rfl rfl ?_
                  refine WL.val run_move rfl rfl ?_
                  refine WL.val (run_gtrT rfl rfl (by omega)) rfl rfl ?_
                  refine WL.val (run_neqBoolF Try.underlying4 rfl rfl rfl) rfl rfl ?_
                  refine WL.val run_move rfl rfl ?_
                  refine WL.val run_move rfl rfl ?_
                  refine WL.val (run_neqT rfl rfl (by decide)) rfl rfl ?_
                  refine WL.val run_move rfl rfl ?_
                  refine WL.val run_move rfl rfl ?_
                  refine WL.val (run_neqF rfl rfl (rfl)) rfl rfl ?_
                  refine WL.val (run_pickT rfl) rfl rfl ?_
                  refine WL.val (run_pickF rfl) rfl rfl ?_
                  refine WL.nil ?_
                  refine W.condF rfl ?_
                  refine W.skip ?_
                  refine W.seq ?_
                  refine W.seq ?_
                  refine W.region ?_
                  refine WL.val run_move rfl rfl ?_
                  refine WL.val (run_eqlF rfl rfl (by decide)) rfl rfl ?_
                  refine WL.nil ?_
                  refine W.condF rfl ?_
                  refine W.skip ?_
                  refine W.seq ?_
                  refine W.region ?_
                  refine WL.val run_move rfl rfl ?_
                  refine WL.eff (eff_call Try.call37 (rroom_ok (h.fetch (RingP 130 br b g)))) rfl rfl ?_
                  rintro _ w ⟨rfl, h⟩
                  have hrm : ((g.n - g.used : Nat) : Int) = ((S - g.used : Nat) : Int) := by rw [hgn]
                  refine WL.val run_move rfl rfl ?_
                  refine WL.val run_move rfl rfl ?_
                  refine WL.val (run_subN (m := S) (n := g.used) rfl rfl (by omega) (by omega)) rfl rfl ?_
                  refine WL.val (run_neqF rfl rfl (hrm)) rfl rfl ?_
                  refine WL.nil ?_
                  refine W.condF rfl ?_
                  refine W.skip ?_
                  refine W.region ?_
                  refine WL.val run_move rfl rfl ?_
                  refine WL.val (run_incN rfl rfl (by omega)) rfl rfl ?_
                  refine WL.val run_assign rfl rfl ?_
                  refine WL.nil ?_
                  -- round, path FFFLTLTF
                  exact ⟨i + 1, ⟨by omega, _, g, ak, ck, d, mkE_of ⟨rfl, rfl, rfl, rfl, rfl, rfl, trivial⟩, hgn, hg0, by omega, hli, hdn, (by have hdc : d.calls ≤ 20 * (i : Int) + 0 := hdc; omega), h.to⟩, by show l.length - (i + 1) < l.length - i; omega⟩
              · skip
                have ob_ : ok = true := by cases ok; exact absurd rfl c72; rfl
                obtain rfl := ob_
                have h : On W0 (RingP 130 br b (keepR g bb) :: DiskP 106 110 b d :: Own 1 (.slice ak g.l.length ck) g.l.length (needsV g.l) :: F) w := h
                have hyes := hok1 rfl
                refine WL.val run_move rfl rfl ?_
                refine WL.skip rfl rfl ?_
                refine WL.skip rfl rfl ?_
                refine WL.skip rfl rfl ?_
                refine WL.val (run_pickF rfl) rfl rfl ?_
                refine WL.val run_move rfl rfl ?_
                refine WL.skip rfl rfl ?_
                refine WL.skip rfl rfl ?_
                refine WL.skip rfl rfl ?_
                refine WL.val (run_pickF rfl) rfl rfl ?_
                refine WL.nil ?_
                refine W.condF rfl ?_
                refine W.exit ?_
                refine W.seq ?_
                refine W.seq ?_
                refine W.region ?_
                refine WL.val run_move rfl rfl ?_
                refine WL.val (run_eqlF rfl rfl (by decide)) rfl rfl ?_
                refine WL.val run_move rfl rfl ?_
                refine WL.val run_move rfl rfl ?_
                refine WL.val (run_gtrF rfl rfl (by omega)) rfl rfl ?_
                refine WL.val (run_neqBoolF Try.underlying4 rfl rfl rfl) rfl rfl ?_
                refine WL.val run_move rfl rfl ?_
                refine WL.val run_move rfl rfl ?_
                refine WL.val (run_neqF rfl rfl (rfl)) rfl rfl ?_
                refine WL.val run_move rfl rfl ?_
                refine WL.skip rfl rfl ?_
                refine WL.skip rfl rfl ?_
                refine WL.val (run_pickF rfl) rfl rfl ?_
                refine WL.val (run_pickF rfl) rfl rfl ?_
                refine WL.nil ?_
                refine W.condF rfl ?_
                refine W.skip ?_
                refine W.seq ?_
                refine W.seq ?_
                refine W.region ?_
                refine WL.val run_move rfl rfl ?_
                refine WL.val (run_eqlT rfl rfl (rfl)) rfl rfl ?_
                refine WL.nil ?_
                refine W.condT rfl ?_
                refine W.seq ?_
                refine W.region ?_
                refine WL.val run_move rfl rfl ?_
                refine WL.val run_move rfl rfl ?_
                refine WL.eff (eff_mkSlice (zl := [.int .i64 0]) (out := [.int .i64 _]) h Try.underlying24 Try.sizeOf3 Try.zeroValue3 (by decide) (by kernel_rfl) rfl rfl (by simp) (⟨⟨_, _, rfl, rfl, by decide⟩, trivial⟩) rfl rfl (by simp [maxLen])) rfl rfl ?_
                rintro _ w ⟨b130, rfl, h⟩
                refine WL.eff (eff_app (bytes := 8) (c2 := 1) h rfl rfl (h.cellsO (v := .slice (some ⟨b130, 0, none⟩) 1 1)) Try.underlying24 rfl rfl rfl rfl rfl (by omega) (by omega) (by simp [Value.oneCell'])) rfl rfl ?_
                rintro _ w ⟨a131, c131, rfl, h⟩
                refine WL.val run_assign rfl rfl ?_
                refine WL.nil ?_
                refine W.region ?_
                refine WL.val run_move rfl rfl ?_
                refine WL.val run_move rfl rfl ?_
                refine WL.val (run_addN (m := g.used) (n := needR bb.length) rfl rfl (by omega)) rfl rfl ?_
                refine WL.val run_assign rfl rfl ?_
                refine WL.nil ?_
                refine W.seq ?_
                refine W.region ?_
                refine WL.val run_move rfl rfl ?_
                refine WL.eff (eff_call Try.call37 (rroom_ok (h.fetch (RingP 130 br b (keepR g bb))))) rfl rfl ?_
                rintro _ w ⟨rfl, h⟩
                have hrm : (((keepR g bb).n - (keepR g bb).used : Nat) : Int) = ((S - (g.used + needR bb.length) : Nat) : Int) := by show ((g.n - (g.used + needR bb.length) : Nat) : Int) = _; rw [hgn]
                refine WL.val run_move rfl rfl ?_
                refine WL.val run_move rfl rfl ?_
                refine WL.val (run_subN (m := S) (n := g.used + needR bb.length) rfl rfl (by omega) (by omega)) rfl rfl ?_
                refine WL.val (run_neqF rfl rfl (hrm)) rfl rfl ?_
                refine WL.nil ?_
                refine W.condF rfl ?_
                refine W.skip ?_
                refine W.region ?_
                refine WL.val run_move rfl rfl ?_
                refine WL.val (run_incN rfl rfl (by omega)) rfl rfl ?_
                refine WL.val run_assign rfl rfl ?_
                refine WL.nil ?_
                -- round, path FFFLTLF
                have hkl : (keepR g bb).l.length = g.l.length + 1 := by show (g.l ++ [(g.place, bb)]).length = _; simp
                have hkv : needsV (keepR g bb).l = needsV g.l ++ [.int .i64 (needR bb.length : Int)] := by show needsV (g.l ++ [(g.place, bb)]) = _; unfold needsV; simp
                exact ⟨i + 1, ⟨by omega, _, keepR g bb, a131, c131, d, mkE_of ⟨rfl, rfl, rfl, congrArg (fun k => Value.slice a131 k c131) hkl.symm, rfl, rfl, trivial⟩, hgn, hg0, (by rw [hkl]; show g.first + _ ≤ _; omega), hli, hdn, (by have hdc : d.calls ≤ 20 * (i : Int) + 20 := hdc; omega), (by rw [hkl, hkv]; exact h.to)⟩, by show l.length - (i + 1) < l.length - i; omega⟩
          · skip
            refine W.exit ?_
            refine W.seq ?_
            refine W.region ?_
            refine WL.val run_assign rfl rfl ?_
            refine WL.nil ?_
            refine W.ret ?_
            refine bodyQ.r1 (v := .bool _) Try.results9 rfl ?_
            -- path FFFLF
            exact ⟨rfl, h.to⟩

end Go.Proofs.Ytlahgihjjabgmaa
