/-
  The contracts of tasks. Lines of walks printed by a program of the prover's.
-/
import Derived.Test.YtbfdkalcpacaaaaTask4
import Derived.Test.YtbfdkalcpacaaaaTaskModel
import Derived.Test.YtbfdkalcpacaaaaTaskLaws
import Derived.Test.YtbfdkalcpacaaaaSlBits
namespace Go.Proofs.Ytbfdkalcpacaaaa
open Go Go.Sl Go.Sl.TkM
set_option linter.unusedVariables false
set_option linter.unusedSimpArgs false
set_option maxHeartbeats 1000000
set_option maxRecDepth 8000
variable {W0 w : World} {L F : List HProp}


theorem put_app {b : Nat} {m : Int} {l : List Tk} {tag attr : Int} (hm : m ≤ 256) (ha : attr = 0 ∨ attr = 1) (hf : findT ⟨m, l⟩ tag = -1) (hr : (l.length : Int) < m) (h : On W0 (SetP 92 b ⟨m, l⟩ :: L) w) : Calls Try.prog 21 #[.pointer (some ⟨b, 0, none⟩), .int .u32 tag, .int .i64 attr] w (Ret fun v w' => v = .int .i64 0 ∧ On W0 (SetP 92 b ⟨m, l ++ [⟨tag, attr, false⟩]⟩ :: L) w') := by
  refine (put_ok (s := ⟨m, l⟩) hm h).mono ?_
  rintro e w' ⟨v, rfl, hv⟩
  rcases hv with ⟨hb, _⟩ | ⟨_, hb, _⟩ | ⟨_, _, rfl, h⟩
  · exfalso; omega
  · exfalso; have hb2 : m ≤ (l.length : Int) := hb; omega
  · rw [ins_end (by omega)] at h
    exact ⟨_, rfl, rfl, h⟩
theorem put_full {b : Nat} {m : Int} {l : List Tk} {tag attr : Int} (hm : m ≤ 256) (ha : 0 ≤ attr ∧ attr ≤ 2) (hf : findT ⟨m, l⟩ tag = -1) (hr : m ≤ (l.length : Int)) (h : On W0 (SetP 92 b ⟨m, l⟩ :: L) w) : Calls Try.prog 21 #[.pointer (some ⟨b, 0, none⟩), .int .u32 tag, .int .i64 attr] w (Ret fun v w' => v = .int .i64 7 ∧ On W0 (SetP 92 b ⟨m, l⟩ :: L) w') := by
  refine (put_ok (s := ⟨m, l⟩) hm h).mono ?_
  rintro e w' ⟨v, rfl, hv⟩
  rcases hv with ⟨hb, _⟩ | ⟨_, _, rfl, h⟩ | ⟨_, hb, _⟩
  · exfalso; omega
  · exact ⟨_, rfl, rfl, h⟩
  · exact (hb hr).elim
theorem put_twice {b : Nat} {m : Int} {l : List Tk} {tag attr : Int} (hm : m ≤ 256) (hf : 0 ≤ findT ⟨m, l⟩ tag) (h : On W0 (SetP 92 b ⟨m, l⟩ :: L) w) : Calls Try.prog 21 #[.pointer (some ⟨b, 0, none⟩), .int .u32 tag, .int .i64 attr] w (Ret fun v w' => v = .int .i64 1 ∧ On W0 (SetP 92 b ⟨m, l⟩ :: L) w') := by
  refine (put_ok (s := ⟨m, l⟩) hm h).mono ?_
  rintro e w' ⟨v, rfl, hv⟩
  rcases hv with ⟨_, rfl, h⟩ | ⟨hb, _⟩ | ⟨hb, _⟩
  · exact ⟨_, rfl, rfl, h⟩
  · exact (hb (.inr (.inr hf))).elim
  · exact (hb (.inr (.inr hf))).elim
theorem idx_at {i j : Nat} {z : Int} (h1 : z = (i : Int)) (h2 : z = (j : Int)) : i = j := by omega

theorem tknown_ok (h : On W0 F w) : Calls Try.prog 19 #[] w (Ret fun v w' => v = .bool true ∧ On W0 F w') := by
  refine enter Try.func19 rfl Try.ntmps19 rfl ?_
  refine W.seq ?_
  refine W.region ?_
  refine WL.val run_assign rfl rfl ?_
  refine WL.nil ?_
  refine W.seq ?_
  refine W.region ?_
  refine WL.eff (eff_call Try.call20 (tnew_ok h)) rfl rfl ?_
  rintro _ w hv
  rcases hv with ⟨_, _, b, rfl, h⟩ | ⟨hb, _⟩
  rotate_left
  · exact absurd (show (1 : Int) ≤ 4 ∧ (4 : Int) ≤ 256 by decide) hb
  refine WL.val run_move rfl rfl ?_
  refine WL.val (run_extract rfl rfl) rfl rfl ?_
  refine WL.val (run_extract rfl rfl) rfl rfl ?_
  refine WL.val run_assign rfl rfl ?_
  refine WL.val run_assign rfl rfl ?_
  refine WL.nil ?_
  refine W.seq ?_
  refine W.seq ?_
  refine W.region ?_
  refine WL.val run_move rfl rfl ?_
  refine WL.val (run_neqF rfl rfl (by decide)) rfl rfl ?_
  refine WL.val run_move rfl rfl ?_
  refine WL.val run_move rfl rfl ?_
  refine WL.val (run_eqlPtrNil Try.underlying54 rfl rfl) rfl rfl ?_
  refine WL.val (run_pickF rfl) rfl rfl ?_
  refine WL.nil ?_
  refine W.condF rfl ?_
  refine W.skip ?_
  refine W.seq ?_
  refine W.region ?_
  refine WL.val run_move rfl rfl ?_
  refine WL.eff (eff_call Try.call21 (put_app (m := 4) (l := []) (tag := 1) (attr := 0) (by decide) (.inl rfl) (by decide) (by decide) h)) rfl rfl ?_
  rintro _ w ⟨_, h⟩
  have h : On W0 (SetP 92 b ⟨4, [⟨1, 0, false⟩]⟩ :: F) w := h
  refine WL.nil ?_
  refine W.seq ?_
  refine W.region ?_
  refine WL.val run_move rfl rfl ?_
  refine WL.eff (eff_call Try.call21 (put_app (m := 4) (l := [⟨1, 0, false⟩]) (tag := 2) (attr := 1) (by decide) (.inr rfl) (by decide) (by decide) h)) rfl rfl ?_
  rintro _ w ⟨_, h⟩
  have h : On W0 (SetP 92 b ⟨4, [⟨1, 0, false⟩, ⟨2, 1, false⟩]⟩ :: F) w := h
  refine WL.nil ?_
  refine W.seq ?_
  refine W.region ?_
  refine WL.val run_move rfl rfl ?_
  refine WL.eff (eff_call Try.call21 (put_ok (s := ⟨4, [⟨1, 0, false⟩, ⟨2, 1, false⟩]⟩) (tag := 3) (attr := 2) (by decide) h)) rfl rfl ?_
  rintro _ w hv
  rcases hv with ⟨hb, _⟩ | ⟨_, hb, _⟩ | ⟨_, _, _, h⟩
  · exact absurd hb (by decide)
  · exact absurd hb (by decide)
  rw [show insT ⟨4, [⟨1, 0, false⟩, ⟨2, 1, false⟩]⟩ (atT ⟨4, [⟨1, 0, false⟩, ⟨2, 1, false⟩]⟩ 2) ⟨3, 2, false⟩ = ⟨4, [⟨3, 2, false⟩, ⟨1, 0, false⟩, ⟨2, 1, false⟩]⟩ by decide] at h
  refine WL.nil ?_
  refine W.seq ?_
  refine W.region ?_
  refine WL.val run_move rfl rfl ?_
  refine WL.eff (eff_call Try.call22 (tenabled_ok (s := ⟨4, [⟨3, 2, false⟩, ⟨1, 0, false⟩, ⟨2, 1, false⟩]⟩) h)) rfl rfl ?_
  rintro _ w ⟨a, hv, h⟩
  have hv2 : _ = Value.slice a 1 1 := hv
  subst hv2
  have h : On W0 (Own 1 (.slice a 1 1) 1 [.int .u32 3] :: SetP 92 b ⟨4, [⟨3, 2, false⟩, ⟨1, 0, false⟩, ⟨2, 1, false⟩]⟩ :: F) w := h
  refine WL.val run_assign rfl rfl ?_
  refine WL.nil ?_
  refine W.seq ?_
  refine W.region ?_
  refine WL.val run_move rfl rfl ?_
  refine WL.eff (eff_call Try.call23 (start_ok (s := ⟨4, [⟨3, 2, false⟩, ⟨1, 0, false⟩, ⟨2, 1, false⟩]⟩) (tag := 2) (h.fetch (SetP 92 b ⟨4, [⟨3, 2, false⟩, ⟨1, 0, false⟩, ⟨2, 1, false⟩]⟩)))) rfl rfl ?_
  rintro _ w hv
  rcases hv with ⟨hf, _⟩ | ⟨i, x, hf, hx, hv⟩
  · exact absurd hf (by decide)
  have hi := idx_at (j := 2) hf (by decide)
  subst hi
  have hx2 : some ⟨2, 1, false⟩ = some x := hx
  have hx3 := Option.some.inj hx2
  subst hx3
  rcases hv with ⟨_, rfl, h⟩ | ⟨he, _⟩
  rotate_left
  · exact absurd he (by decide)
  refine WL.val run_assign rfl rfl ?_
  refine WL.nil ?_
  refine W.seq ?_
  refine W.region ?_
  refine WL.val run_move rfl rfl ?_
  refine WL.eff (eff_call Try.call23 (start_ok (s := ⟨4, [⟨3, 2, false⟩, ⟨1, 0, false⟩, ⟨2, 1, false⟩]⟩) (tag := 1) h)) rfl rfl ?_
  rintro _ w hv
  rcases hv with ⟨hf, _⟩ | ⟨i, x, hf, hx, hv⟩
  · exact absurd hf (by decide)
  have hi := idx_at (j := 1) hf (by decide)
  subst hi
  have hx2 : some ⟨1, 0, false⟩ = some x := hx
  have hx3 := Option.some.inj hx2
  subst hx3
  rcases hv with ⟨_, rfl, h⟩ | ⟨he, _⟩
  rotate_left
  · exact absurd he (by decide)
  refine WL.val run_assign rfl rfl ?_
  refine WL.nil ?_
  refine W.seq ?_
  refine W.region ?_
  refine WL.val run_move rfl rfl ?_
  refine WL.eff (eff_call Try.call24 (done_ok (s := ⟨4, [⟨3, 2, false⟩, ⟨1, 0, false⟩, ⟨2, 1, false⟩]⟩) (tag := 1) h)) rfl rfl ?_
  rintro _ w hv
  rcases hv with ⟨hf, _⟩ | ⟨i, x, hf, hx, hv⟩
  · exact absurd hf (by decide)
  have hi := idx_at (j := 1) hf (by decide)
  subst hi
  have hx2 : some ⟨1, 0, false⟩ = some x := hx
  have hx3 := Option.some.inj hx2
  subst hx3
  rcases hv with ⟨_, rfl, h⟩ | ⟨he, _⟩
  rotate_left
  · exact absurd he (by decide)
  refine WL.val run_assign rfl rfl ?_
  refine WL.nil ?_
  refine W.seq ?_
  have haa := Own.addr (h.fetch (Own 1 (.slice a 1 1) 1 [.int .u32 3])) (by decide)
  obtain ⟨ba, oa, rfl⟩ := haa
  refine W.region ?_
  refine WL.val run_move rfl rfl ?_
  refine WL.val (run_lenSlice Try.underlying60 rfl) rfl rfl ?_
  refine WL.val (run_eqlT rfl rfl (rfl)) rfl rfl ?_
  refine WL.val run_move rfl rfl ?_
  refine WL.val run_move rfl rfl ?_
  refine WL.val (run_indexAddr Try.underlying60 Try.sizeOf59 rfl rfl (by decide) (by decide)) rfl rfl ?_
  refine WL.val (run_load1 Try.isAgg59 rfl ((h.cellsO (v := .slice (some ⟨ba, oa, none⟩) 1 1)).elem (i := 0) (vs := [.int .u32 3]) (by decide) rfl 0 _ rfl)) rfl rfl ?_
  refine WL.val (run_eqlT rfl rfl (rfl)) rfl rfl ?_
  refine WL.val (run_pickT rfl) rfl rfl ?_
  refine WL.val run_move rfl rfl ?_
  refine WL.val run_move rfl rfl ?_
  refine WL.val (run_eqlT rfl rfl (rfl)) rfl rfl ?_
  refine WL.val (run_pickT rfl) rfl rfl ?_
  refine WL.val run_move rfl rfl ?_
  refine WL.val run_move rfl rfl ?_
  refine WL.val (run_eqlT rfl rfl (rfl)) rfl rfl ?_
  refine WL.val (run_pickT rfl) rfl rfl ?_
  refine WL.val run_move rfl rfl ?_
  refine WL.val run_move rfl rfl ?_
  refine WL.val (run_eqlT rfl rfl (rfl)) rfl rfl ?_
  refine WL.val (run_pickT rfl) rfl rfl ?_
  refine WL.val run_move rfl rfl ?_
  refine WL.val run_move rfl rfl ?_
  refine WL.eff (eff_call Try.call48 (abort_ok (s := ⟨4, [⟨3, 2, false⟩, ⟨1, 0, false⟩, ⟨2, 1, false⟩]⟩) (tag := 3) h)) rfl rfl ?_
  rintro _ w hv
  rcases hv with ⟨hf, _⟩ | ⟨i, x, hf, hx, rfl, h⟩
  · exact absurd hf (by decide)
  have hi := idx_at (j := 0) hf (by decide)
  subst hi
  rw [show delT ⟨4, [⟨3, 2, false⟩, ⟨1, 0, false⟩, ⟨2, 1, false⟩]⟩ 0 = ⟨4, [⟨1, 0, false⟩, ⟨2, 1, false⟩]⟩ by decide] at h
  refine WL.val (run_pickT rfl) rfl rfl ?_
  refine WL.val run_move rfl rfl ?_
  refine WL.val run_move rfl rfl ?_
  refine WL.eff (eff_call Try.call22 (tenabled_ok (s := ⟨4, [⟨1, 0, false⟩, ⟨2, 1, false⟩]⟩) h)) rfl rfl ?_
  rintro _ w ⟨a2, hv, h⟩
  have hv2 : _ = Value.slice a2 1 1 := hv
  subst hv2
  refine WL.val (run_lenSlice Try.underlying60 rfl) rfl rfl ?_
  refine WL.val (run_eqlT rfl rfl (rfl)) rfl rfl ?_
  refine WL.val (run_pickT rfl) rfl rfl ?_
  refine WL.val run_move rfl rfl ?_
  refine WL.val run_move rfl rfl ?_
  refine WL.eff (eff_call Try.call25 (tlen_ok (s := ⟨4, [⟨1, 0, false⟩, ⟨2, 1, false⟩]⟩) (h.fetch (SetP 92 b ⟨4, [⟨1, 0, false⟩, ⟨2, 1, false⟩]⟩)))) rfl rfl ?_
  rintro _ w ⟨hv, h⟩
  have hv2 : _ = Value.int .i64 2 := hv
  subst hv2
  refine WL.val (run_eqlT rfl rfl (rfl)) rfl rfl ?_
  refine WL.val (run_pickT rfl) rfl rfl ?_
  refine WL.val run_move rfl rfl ?_
  refine WL.val run_move rfl rfl ?_
  refine WL.eff (eff_call Try.call49 (waiting_ok (s := ⟨4, [⟨1, 0, false⟩, ⟨2, 1, false⟩]⟩) h)) rfl rfl ?_
  rintro _ w ⟨a3, hv, h⟩
  have hv2 : _ = Value.slice a3 2 2 := hv
  subst hv2
  refine WL.val (run_lenSlice Try.underlying60 rfl) rfl rfl ?_
  refine WL.val (run_eqlT rfl rfl (rfl)) rfl rfl ?_
  refine WL.val (run_pickT rfl) rfl rfl ?_
  refine WL.val run_assign rfl rfl ?_
  refine WL.nil ?_
  refine W.ret ?_
  refine bodyQ.r1 (v := .bool _) Try.results19 rfl ?_
  -- path 
  exact ⟨rfl, h.to⟩

theorem tone_ok {x : Int} (h : On W0 L w) : Calls Try.prog 26 #[.int .i64 x] w (Ret fun v w' => v = .int .i64 (if x = 1 then 1 else 0) ∧ On W0 L w') := by
  refine enter Try.func26 rfl Try.ntmps26 rfl ?_
  refine W.seq ?_
  refine W.region ?_
  refine WL.val run_assign rfl rfl ?_
  refine WL.nil ?_
  refine W.seq ?_
  refine W.seq ?_
  refine W.region ?_
  refine WL.val run_move rfl rfl ?_
  refine WL.val (run_eql rfl rfl) rfl rfl ?_
  refine WL.nil ?_
  refine W.condIf rfl (fun c2 => ?_) (fun c2 => ?_)
  · skip
    refine W.seq ?_
    refine W.region ?_
    refine WL.val run_assign rfl rfl ?_
    refine WL.nil ?_
    refine W.ret ?_
    refine bodyQ.r1 (v := .int .i64 _) Try.results26 rfl ?_
    -- path T
    exact ⟨by rw [if_pos c2], h⟩
  · skip
    refine W.skip ?_
    refine W.seq ?_
    refine W.region ?_
    refine WL.val run_assign rfl rfl ?_
    refine WL.nil ?_
    refine W.ret ?_
    refine bodyQ.r1 (v := .int .i64 _) Try.results26 rfl ?_
    -- path F
    exact ⟨by rw [if_neg c2], h⟩

theorem full_ok {most done : Int} (h : On W0 F w) : Calls Try.prog 6 #[.int .i64 most, .int .i64 done] w (Ret fun v w' => v = .bool true ∧ On W0 F w') := by
  refine enter Try.func6 rfl Try.ntmps6 rfl ?_
  refine W.seq ?_
  refine W.region ?_
  refine WL.val run_assign rfl rfl ?_
  refine WL.nil ?_
  refine W.seq ?_
  refine W.seq ?_
  refine W.region ?_
  refine WL.eff (eff_call Try.call19 (tknown_ok h)) rfl rfl ?_
  rintro _ w ⟨rfl, h⟩
  refine WL.val (run_not rfl) rfl rfl ?_
  refine WL.nil ?_
  refine W.condF rfl ?_
  refine W.skip ?_
  refine W.seq ?_
  refine W.seq ?_
  refine W.region ?_
  refine WL.val run_move rfl rfl ?_
  refine WL.dec (run_lss rfl rfl) rfl rfl (fun c11 => ?_) (fun c11 => ?_)
  · skip
    refine WL.val run_move rfl rfl ?_
    refine WL.skip rfl rfl ?_
    refine WL.skip rfl rfl ?_
    refine WL.val (run_pickT rfl) rfl rfl ?_
    refine WL.val run_move rfl rfl ?_
    refine WL.skip rfl rfl ?_
    refine WL.skip rfl rfl ?_
    refine WL.val (run_pickT rfl) rfl rfl ?_
    refine WL.val run_move rfl rfl ?_
    refine WL.skip rfl rfl ?_
    refine WL.skip rfl rfl ?_
    refine WL.skip rfl rfl ?_
    refine WL.val (run_pickT rfl) rfl rfl ?_
    refine WL.nil ?_
    refine W.condT rfl ?_
    refine W.seq ?_
    refine W.region ?_
    refine WL.val run_assign rfl rfl ?_
    refine WL.nil ?_
    refine W.ret ?_
    refine bodyQ.r1 (v := .bool _) Try.results6 rfl ?_
    -- path T
    exact ⟨rfl, h⟩
  · skip
    refine WL.val run_move rfl rfl ?_
    refine WL.val run_move rfl rfl ?_
    refine WL.dec (run_gtr rfl rfl) rfl rfl (fun c14 => ?_) (fun c14 => ?_)
    · skip
      refine WL.val (run_pickF rfl) rfl rfl ?_
      refine WL.val run_move rfl rfl ?_
      refine WL.skip rfl rfl ?_
      refine WL.skip rfl rfl ?_
      refine WL.val (run_pickT rfl) rfl rfl ?_
      refine WL.val run_move rfl rfl ?_
      refine WL.skip rfl rfl ?_
      refine WL.skip rfl rfl ?_
      refine WL.skip rfl rfl ?_
      refine WL.val (run_pickT rfl) rfl rfl ?_
      refine WL.nil ?_
      refine W.condT rfl ?_
      refine W.seq ?_
      refine W.region ?_
      refine WL.val run_assign rfl rfl ?_
      refine WL.nil ?_
      refine W.ret ?_
      refine bodyQ.r1 (v := .bool _) Try.results6 rfl ?_
      -- path FT
      exact ⟨rfl, h⟩
    · skip
      refine WL.val (run_pickF rfl) rfl rfl ?_
      refine WL.val run_move rfl rfl ?_
      refine WL.val run_move rfl rfl ?_
      refine WL.dec (run_lss rfl rfl) rfl rfl (fun c18 => ?_) (fun c18 => ?_)
      · skip
        refine WL.val (run_pickF rfl) rfl rfl ?_
        refine WL.val run_move rfl rfl ?_
        refine WL.skip rfl rfl ?_
        refine WL.skip rfl rfl ?_
        refine WL.skip rfl rfl ?_
        refine WL.val (run_pickT rfl) rfl rfl ?_
        refine WL.nil ?_
        refine W.condT rfl ?_
        refine W.seq ?_
        refine W.region ?_
        refine WL.val run_assign rfl rfl ?_
        refine WL.nil ?_
        refine W.ret ?_
        refine bodyQ.r1 (v := .bool _) Try.results6 rfl ?_
        -- path FFT
        exact ⟨rfl, h⟩
      · skip
        refine WL.val (run_pickF rfl) rfl rfl ?_
        refine WL.val run_move rfl rfl ?_
        refine WL.val run_move rfl rfl ?_
        refine WL.val run_move rfl rfl ?_
        refine WL.val (run_geq rfl rfl) rfl rfl ?_
        refine WL.val (run_pickF rfl) rfl rfl ?_
        refine WL.nil ?_
        refine W.condIf rfl (fun c7 => ?_) (fun c7 => ?_)
        · skip
          refine W.seq ?_
          refine W.region ?_
          refine WL.val run_assign rfl rfl ?_
          refine WL.nil ?_
          refine W.ret ?_
          refine bodyQ.r1 (v := .bool _) Try.results6 rfl ?_
          -- path FFFT
          exact ⟨rfl, h⟩
        · skip
          refine W.skip ?_
          refine W.seq ?_
          have ob_ := Int.eq_ofNat_of_zero_le (show 0 ≤ most by omega)
          obtain ⟨m, rfl⟩ := ob_
          have ob_ := Int.eq_ofNat_of_zero_le (show 0 ≤ done by omega)
          obtain ⟨d, rfl⟩ := ob_
          have hd : d < m := by omega
          have hm100 : m ≤ 100 := by omega
          refine W.region ?_
          refine WL.val run_move rfl rfl ?_
          refine WL.eff (eff_call Try.call20 (tnew_ok h)) rfl rfl ?_
          rintro _ w hv
          rcases hv with ⟨_, _, b, rfl, h⟩ | ⟨hb, _⟩
          rotate_left
          · exfalso; omega
          refine WL.val run_move rfl rfl ?_
          refine WL.val (run_extract rfl rfl) rfl rfl ?_
          refine WL.val (run_extract rfl rfl) rfl rfl ?_
          refine WL.val run_assign rfl rfl ?_
          refine WL.val run_assign rfl rfl ?_
          refine WL.nil ?_
          refine W.seq ?_
          refine W.seq ?_
          refine W.region ?_
          refine WL.val run_assign rfl rfl ?_
          refine WL.nil ?_
          refine W.block ?_
          refine W.loop (fun (k : Nat) env w => ∃ j, env = mkE j [(0, .int .i64 (m : Int)), (1, .int .i64 (d : Int)), (5, .pointer (some ⟨b, 0, none⟩)), (7, .int .i64 (k : Int))] ∧ k ≤ m ∧ On W0 (SetP 92 b ⟨(m : Int), L0 k⟩ :: F) w) (fun k => m - k) (0) ?_ ?_
          · exact ⟨_, mkE_of ⟨rfl, rfl, rfl, rfl, trivial⟩, Nat.zero_le _, h⟩
          · rintro k env w ⟨j, rfl, hk, h⟩
            refine W.seq ?_
            refine W.seq ?_
            refine W.region ?_
            refine WL.val run_move rfl rfl ?_
            refine WL.val run_move rfl rfl ?_
            refine WL.val (run_lss rfl rfl) rfl rfl ?_
            refine WL.nil ?_
            refine W.condIf rfl (fun c16 => ?_) (fun c16 => ?_)
            · skip
              refine W.skip ?_
              refine W.seq ?_
              refine W.block ?_
              refine W.seq ?_
              refine W.region ?_
              refine WL.val run_move rfl rfl ?_
              refine WL.val run_move rfl rfl ?_
              refine WL.val (run_convIn Try.underlying3 Try.underlying59 rfl (by show (0 : Int) ≤ _; omega) (by show _ ≤ (4294967295 : Int); omega)) rfl rfl ?_
              refine WL.eff (eff_call Try.call21 (put_app (m := (m : Int)) (l := L0 k) (tag := (k : Int)) (attr := 0) (by omega) (.inl rfl) (find_none (fun x hx => by have := L0_mem hx; omega)) (by rw [L0_length]; omega) h)) rfl rfl ?_
              rintro _ w ⟨rfl, h⟩
              rw [← L0_succ] at h
              refine WL.val (run_neqF rfl rfl (rfl)) rfl rfl ?_
              refine WL.nil ?_
              refine W.condF rfl ?_
              refine W.skip ?_
              refine W.region ?_
              refine WL.val run_move rfl rfl ?_
              refine WL.val (run_incN rfl rfl (by omega)) rfl rfl ?_
              refine WL.val run_assign rfl rfl ?_
              refine WL.nil ?_
              -- round, path FFFFLT
              exact ⟨k + 1, ⟨_, mkE_of ⟨rfl, rfl, rfl, rfl, trivial⟩, by omega, h⟩, by show m - (k + 1) < m - k; omega⟩
            · skip
              refine W.exit ?_
              refine W.seq ?_
              refine W.seq ?_
              have ob_ : k = m := by omega
              obtain rfl := ob_
              refine W.region ?_
              refine WL.val run_move rfl rfl ?_
              refine WL.eff (eff_call Try.call21 (put_full (m := (k : Int)) (l := L0 k) (tag := 1000) (attr := 0) (by omega) (by omega) (find_none (fun x hx => by have := L0_mem hx; omega)) (by rw [L0_length]; omega) h)) rfl rfl ?_
              rintro _ w ⟨rfl, h⟩
              refine WL.val (run_neqF rfl rfl (rfl)) rfl rfl ?_
              refine WL.val run_move rfl rfl ?_
              refine WL.val run_move rfl rfl ?_
              refine WL.eff (eff_call Try.call21 (put_twice (m := (k : Int)) (l := L0 k) (tag := 0) (attr := 0) (by omega) (by rw [show (0 : Int) = ((0 : Nat) : Int) from rfl, find_L0 (by omega)]; omega) h)) rfl rfl ?_
              rintro _ w ⟨rfl, h⟩
              refine WL.val (run_neqF rfl rfl (rfl)) rfl rfl ?_
              refine WL.val (run_pickF rfl) rfl rfl ?_
              refine WL.val run_move rfl rfl ?_
              refine WL.val run_move rfl rfl ?_
              refine WL.eff (eff_call Try.call22 (tenabled_ok h)) rfl rfl ?_
              rintro _ w ⟨a, hv, h⟩
              have hv2 : _ = Value.slice a (enL (L0 k) (L0 k).length).length (enL (L0 k) (L0 k).length).length := hv
              rw [en_L0] at hv2
              subst hv2
              have h := h.tail
              refine WL.val (run_lenSlice Try.underlying60 rfl) rfl rfl ?_
              refine WL.val run_move rfl rfl ?_
              refine WL.val (run_neqF rfl rfl (rfl)) rfl rfl ?_
              refine WL.val (run_pickF rfl) rfl rfl ?_
              refine WL.nil ?_
              refine W.condF rfl ?_
              refine W.skip ?_
              refine W.seq ?_
              refine W.seq ?_
              refine W.region ?_
              refine WL.val run_move rfl rfl ?_
              refine WL.val run_move rfl rfl ?_
              refine WL.val (run_convIn Try.underlying3 Try.underlying59 rfl (by show (0 : Int) ≤ _; omega) (by show _ ≤ (4294967295 : Int); omega)) rfl rfl ?_
              refine WL.eff (eff_call Try.call23 (start_ok (s := ⟨(k : Int), L0 k⟩) (tag := (d : Int)) h)) rfl rfl ?_
              rintro _ w hv
              have hfd := find_L0 (m := (k : Int)) hd
              rcases hv with ⟨hf, _⟩ | ⟨i, x, hf, hx, hv⟩
              · exfalso; omega
              have hi := idx_at hf hfd
              subst hi
              have hx2 : (L0 k)[i]? = some x := hx
              rw [L0_get, if_pos hd] at hx2
              have hx3 := Option.some.inj hx2
              subst hx3
              rcases hv with ⟨he, _⟩ | ⟨_, rfl, h⟩
              · exfalso
                have he2 : enB (L0 k) i ⟨(i : Int), 0, false⟩ = false := he
                rw [enB_simple rfl rfl fun u hu => (L0_mem (List.mem_of_mem_take hu)).1] at he2
                cases he2
              have h : On W0 (SetP 92 b ⟨(k : Int), Ld k i⟩ :: F) w := h
              refine WL.val (run_neqF rfl rfl (rfl)) rfl rfl ?_
              refine WL.val run_move rfl rfl ?_
              refine WL.val run_move rfl rfl ?_
              refine WL.eff (eff_call Try.call21 (put_full (m := (k : Int)) (l := Ld k i) (tag := 1000) (attr := 2) (by omega) (by omega) (find_none (fun x hx => by have := Ld_mem hd hx; omega)) (by rw [Ld_length]; omega) h)) rfl rfl ?_
              rintro _ w ⟨rfl, h⟩
              refine WL.val (run_neqF rfl rfl (rfl)) rfl rfl ?_
              refine WL.val (run_pickF rfl) rfl rfl ?_
              refine WL.val run_move rfl rfl ?_
              refine WL.val run_move rfl rfl ?_
              refine WL.val run_move rfl rfl ?_
              refine WL.val (run_convIn Try.underlying3 Try.underlying59 rfl (by show (0 : Int) ≤ _; omega) (by show _ ≤ (4294967295 : Int); omega)) rfl rfl ?_
              refine WL.eff (eff_call Try.call24 (done_ok (s := ⟨(k : Int), Ld k i⟩) (tag := (i : Int)) h)) rfl rfl ?_
              rintro _ w hv
              have hfd2 := find_Ld (m := (k : Int)) hd
              rcases hv with ⟨hf2, _⟩ | ⟨q, x, hf2, hx, hv⟩
              · exfalso; omega
              have hqi := idx_at hf2 hfd2
              subst hqi
              have hx2 : (Ld k q)[q]? = some x := hx
              rw [Ld_get hd, if_pos hd] at hx2
              have hx3 := Option.some.inj hx2
              subst hx3
              rcases hv with ⟨he, _⟩ | ⟨_, rfl, h⟩
              · exfalso; have he2 : decide (q = q) = false := he; simp at he2
              have h : On W0 (SetP 92 b ⟨(k : Int), Lx k q⟩ :: F) w := h
              refine WL.val (run_neqF rfl rfl (rfl)) rfl rfl ?_
              refine WL.val (run_pickF rfl) rfl rfl ?_
              refine WL.nil ?_
              refine W.condF rfl ?_
              refine W.skip ?_
              refine W.seq ?_
              refine W.region ?_
              refine WL.val run_move rfl rfl ?_
              refine WL.eff (eff_call Try.call21 (put_app (m := (k : Int)) (l := Lx k q) (tag := 1000) (attr := 1) (by omega) (.inr rfl) (find_none (fun x hx => by have := Lx_mem hd hx; omega)) (by rw [Lx_length hd]; omega) h)) rfl rfl ?_
              rintro _ w ⟨rfl, h⟩
              have hlx : (Lx k q ++ [(⟨1000, 1, false⟩ : Tk)]).length = k := by rw [List.length_append, Lx_length hd]; show k - 1 + 1 = k; omega
              refine WL.val (run_eqlT rfl rfl (rfl)) rfl rfl ?_
              refine WL.val run_move rfl rfl ?_
              refine WL.val run_move rfl rfl ?_
              refine WL.eff (eff_call Try.call25 (tlen_ok h)) rfl rfl ?_
              rintro _ w ⟨hv, h⟩
              have hv2 : _ = Value.int .i64 (((Lx k q ++ [(⟨1000, 1, false⟩ : Tk)]).length : Nat) : Int) := hv
              rw [hlx] at hv2
              subst hv2
              refine WL.val run_move rfl rfl ?_
              refine WL.val (run_eqlT rfl rfl (rfl)) rfl rfl ?_
              refine WL.val (run_pickT rfl) rfl rfl ?_
              refine WL.val run_move rfl rfl ?_
              refine WL.val run_move rfl rfl ?_
              refine WL.eff (eff_call Try.call22 (tenabled_ok h)) rfl rfl ?_
              rintro _ w ⟨a2, hv, h⟩
              have hv2 : _ = Value.slice a2 (enL (Lx k q ++ [(⟨1000, 1, false⟩ : Tk)]) (Lx k q ++ [(⟨1000, 1, false⟩ : Tk)]).length).length (enL (Lx k q ++ [(⟨1000, 1, false⟩ : Tk)]) (Lx k q ++ [(⟨1000, 1, false⟩ : Tk)]).length).length := hv
              rw [hlx, en_last hd] at hv2
              subst hv2
              have h := h.tail
              refine WL.val (run_lenSlice Try.underlying60 rfl) rfl rfl ?_
              refine WL.val run_move rfl rfl ?_
              refine WL.val (run_sub rfl rfl (by omega) (by omega)) rfl rfl ?_
              refine WL.val run_move rfl rfl ?_
              refine WL.eff (eff_call Try.call26 (tone_ok h)) rfl rfl ?_
              rintro _ w ⟨rfl, h⟩
              have hon : (if (k : Int) = 1 then (1 : Int) else 0) = ((if k = 1 then 1 else 0 : Nat) : Int) := by split <;> split <;> omega
              refine WL.val (run_add rfl rfl (by rw [hon]; split <;> omega) (by rw [hon]; split <;> omega)) rfl rfl ?_
              refine WL.val (run_eqlT rfl rfl (by rw [hon]; split <;> omega)) rfl rfl ?_
              refine WL.val (run_pickT rfl) rfl rfl ?_
              refine WL.val run_assign rfl rfl ?_
              refine WL.nil ?_
              refine W.ret ?_
              refine bodyQ.r1 (v := .bool _) Try.results6 rfl ?_
              -- path FFFFLF
              exact ⟨rfl, h.to⟩

end Go.Proofs.Ytbfdkalcpacaaaa
