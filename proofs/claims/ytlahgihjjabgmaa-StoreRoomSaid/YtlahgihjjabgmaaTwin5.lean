/-
  The laws of values on two sectors. Lines of walks printed by a program of the prover's.
-/
import Derived.Test.YtlahgihjjabgmaaTwin4
import Derived.Test.YtlahgihjjabgmaaTwin2
import Derived.Test.YtlahgihjjabgmaaTwinL
namespace Go.Proofs.Ytlahgihjjabgmaa
open Go Go.Sl Go.Sl.ByM Go.Sl.DkM Go.Sl.TwM
set_option linter.unusedVariables false
set_option linter.unusedSimpArgs false
set_option maxHeartbeats 1000000
set_option maxRecDepth 8000
variable {W0 w : World} {L F : List HProp}

theorem open_found {b n : Nat} {d : Dk} {at_ : Int} {val : List UInt8} (I : TwI d at_ n val) (hn : 0 ≤ d.n) (h : On W0 (DiskP 106 110 b d :: L) w) : Calls Try.prog 29 #[.pointer (some ⟨b, 0, none⟩), .int .i64 at_] w (Ret fun v w' => ∃ bt, v = .tuple #[.pointer (some ⟨bt, 0, none⟩), .int .i64 0] ∧ On W0 (TwinP 126 bt b at_ n val :: DiskP 106 110 b d :: L) w') := (open_ok2 hn h).mono fun e w' he => by
  obtain ⟨v, he, hv⟩ := he
  refine ⟨v, he, ?_⟩
  rcases hv with ⟨bt, n2, val2, e1, hv, h⟩ | ⟨e1, _, _, _⟩
  · rw [I.opens] at e1
    cases e1
    exact ⟨bt, hv, h⟩
  · rw [I.opens] at e1
    cases e1

theorem open_none {b : Nat} {d : Dk} {at_ k : Int} (e0 : openT d at_ = (none, k)) (hn : 0 ≤ d.n) (h : On W0 (DiskP 106 110 b d :: L) w) : Calls Try.prog 29 #[.pointer (some ⟨b, 0, none⟩), .int .i64 at_] w (Ret fun v w' => v = .tuple #[.pointer none, .int .i64 k] ∧ On W0 (DiskP 106 110 b d :: L) w') := (open_ok2 hn h).mono fun e w' he => by
  obtain ⟨v, he, hv⟩ := he
  refine ⟨v, he, ?_⟩
  rcases hv with ⟨bt, n2, val2, e1, hv, h⟩ | ⟨e1, _, hv, h⟩
  · rw [e0] at e1
    cases e1
  · rw [e0] at hv
    exact ⟨hv, h⟩

theorem format_found {ax : Option Addr} {b cx : Nat} {d : Dk} {at_ : Int} {value : List UInt8} (hl : Live d) (hi : inT d at_) (hv1 : value.length ≤ 488) (hlow : d.lowK 3) (hn : 0 ≤ d.n) (h : On W0 (DiskP 106 110 b d :: L) w) (C : Gives L (Bytes (.slice ax value.length cx) value)) : Calls Try.prog 30 #[.pointer (some ⟨b, 0, none⟩), .int .i64 at_, .slice ax value.length cx] w (Ret fun v w' => v = .int .i64 0 ∧ ∃ d', TwI d' at_ 1 value ∧ d'.n = d.n ∧ d'.calls = d.calls + 3 ∧ On W0 (DiskP 106 110 b d' :: L) w') := (format_ok hlow hn h C).mono fun e w' he => by
  obtain ⟨v, he, hv⟩ := he
  refine ⟨v, he, ?_⟩
  obtain ⟨hv, h⟩ := hv
  obtain ⟨e1, _, e2, e3, _⟩ := format_live hl hi hv1
  rw [e1] at hv
  exact ⟨hv, _, TwI.format hl hi hv1, e2, e3, h⟩

theorem put_found {bt b cx number : Nat} {ax : Option Addr} {d : Dk} {at_ : Int} {value nv : List UInt8} (I : TwI d at_ number value) (hnb : number + 1 < 256 ^ 8) (hv1 : nv.length ≤ 488) (hat : at_ ≤ 10000) (hlow : d.lowK 2) (h : On W0 (TwinP 126 bt b at_ number value :: DiskP 106 110 b d :: L) w) (C : Gives L (Bytes (.slice ax nv.length cx) nv)) : Calls Try.prog 72 #[.pointer (some ⟨bt, 0, none⟩), .slice ax nv.length cx] w (Ret fun v w' => v = .int .i64 0 ∧ ∃ d', TwI d' at_ (number + 1) nv ∧ d'.n = d.n ∧ d'.calls = d.calls + 2 ∧ On W0 (TwinP 126 bt b at_ (number + 1) nv :: DiskP 106 110 b d' :: L) w') := (put_ok hlow ⟨I.at_in.1, hat⟩ hnb h C).mono fun e w' he => by
  obtain ⟨v, he, hv⟩ := he
  refine ⟨v, he, ?_⟩
  obtain ⟨hv, h⟩ := hv
  obtain ⟨e1, _, e2, e3, _⟩ := put_live (number := number) I.live I.at_in hv1
  rw [e1] at hv
  rw [if_pos e1, if_pos e1] at h
  exact ⟨hv, _, I.put hnb hv1, e2, e3, h⟩

theorem tknown_ok (h : On W0 F w) : Calls Try.prog 24 #[] w (Ret fun v w' => v = .bool true ∧ On W0 F w') := by
  refine enter Try.func24 rfl Try.ntmps24 rfl ?_
  refine W.seq ?_
  refine W.region ?_
  refine WL.val run_assign rfl rfl ?_
  refine WL.nil ?_
  refine W.seq ?_
  refine W.region ?_
  refine WL.eff (eff_call Try.call16 (new_ok h)) rfl rfl ?_
  rintro _ w hv
  rcases hv with ⟨_, _, b, rfl, h⟩ | ⟨hno, _, _⟩
  rotate_left
  · exact absurd ⟨by decide, by decide⟩ hno
  refine WL.val run_move rfl rfl ?_
  refine WL.val (run_extract rfl rfl) rfl rfl ?_
  refine WL.val (run_extract rfl rfl) rfl rfl ?_
  refine WL.val run_assign rfl rfl ?_
  refine WL.val run_assign rfl rfl ?_
  refine WL.nil ?_
  refine W.seq ?_
  refine W.region ?_
  refine WL.val run_move rfl rfl ?_
  refine WL.eff (eff_mkSlice (zl := [.int .u8 0]) (out := [.int .u8 _]) h Try.underlying22 Try.sizeOf5 Try.zeroValue5 (by decide) (by kernel_rfl) rfl rfl (by simp) (⟨⟨_, _, rfl, rfl, by decide⟩, trivial⟩) rfl rfl (by simp [maxLen])) rfl rfl ?_
  rintro _ w ⟨b14, rfl, h⟩
  refine WL.eff (eff_ofString h rfl (by omega) Try.underlying22 Try.underlying5) rfl rfl ?_
  rintro _ w ⟨rfl, h⟩
  refine WL.eff (eff_call Try.call30 (format_found (d := newD 4) (at_ := 1) (value := [97]) (newLive 4) ⟨by decide, by decide⟩ (by decide) ⟨by decide, by decide⟩ (by decide) (h.fetch (DiskP 106 110 b (newD 4))) (Gives.ownO (v := .slice (some ⟨b14, 0, none⟩) 1 1)))) rfl rfl ?_
  rintro _ w ⟨rfl, d1, I1, hn1, hc1, h⟩
  have hn1 : d1.n = 4 := hn1
  have hc1 : d1.calls = 3 := hc1
  refine WL.val run_assign rfl rfl ?_
  refine WL.nil ?_
  refine W.seq ?_
  refine W.region ?_
  refine WL.val run_move rfl rfl ?_
  refine WL.eff (eff_call Try.call29 (open_found I1 (by omega) h)) rfl rfl ?_
  rintro _ w ⟨bt1, rfl, h⟩
  refine WL.val run_move rfl rfl ?_
  refine WL.val (run_extract rfl rfl) rfl rfl ?_
  refine WL.val (run_extract rfl rfl) rfl rfl ?_
  refine WL.val run_assign rfl rfl ?_
  refine WL.val run_assign rfl rfl ?_
  refine WL.nil ?_
  refine W.seq ?_
  refine W.seq ?_
  refine W.region ?_
  refine WL.val run_move rfl rfl ?_
  refine WL.val run_move rfl rfl ?_
  refine WL.val (run_add rfl rfl (by omega) (by omega)) rfl rfl ?_
  refine WL.val (run_neqF rfl rfl (rfl)) rfl rfl ?_
  refine WL.val run_move rfl rfl ?_
  refine WL.val run_move rfl rfl ?_
  refine WL.val (run_eqlPtrNil Try.underlying49 rfl rfl) rfl rfl ?_
  refine WL.val (run_pickF rfl) rfl rfl ?_
  refine WL.nil ?_
  refine W.condF rfl ?_
  refine W.skip ?_
  refine W.seq ?_
  refine W.region ?_
  refine WL.val run_move rfl rfl ?_
  refine WL.eff (eff_mkSlice (zl := [.int .u8 0, .int .u8 0]) (out := [.int .u8 _, .int .u8 _]) h Try.underlying22 Try.sizeOf5 Try.zeroValue5 (by decide) (by kernel_rfl) rfl rfl (by simp) (⟨⟨_, _, rfl, rfl, by decide⟩, ⟨⟨_, _, rfl, rfl, by decide⟩, trivial⟩⟩) rfl rfl (by simp [maxLen])) rfl rfl ?_
  rintro _ w ⟨b31, rfl, h⟩
  refine WL.eff (eff_ofString h rfl (by omega) Try.underlying22 Try.underlying5) rfl rfl ?_
  rintro _ w ⟨rfl, h⟩
  refine WL.eff (eff_call Try.call72 (put_found (d := d1) (bt := bt1) (number := 1) (value := [97]) (at_ := 1) (nv := [98, 99]) I1 (by decide) (by decide) (by decide) ⟨by omega, by rw [I1.live.armed]; decide⟩ ((h.fetch (DiskP 106 110 b d1)).fetch (TwinP 126 bt1 b 1 1 [97])) (Gives.ownO (v := .slice (some ⟨b31, 0, none⟩) 2 2)))) rfl rfl ?_
  rintro _ w ⟨rfl, d2, I2, hn2, hc2, h⟩
  refine WL.val run_assign rfl rfl ?_
  refine WL.nil ?_
  refine W.seq ?_
  refine W.region ?_
  refine WL.val run_move rfl rfl ?_
  refine WL.eff (eff_call Try.call29 (open_found I2 (by omega) (h.fetch (DiskP 106 110 b d2)))) rfl rfl ?_
  rintro _ w ⟨bt2, rfl, h⟩
  refine WL.val run_move rfl rfl ?_
  refine WL.val (run_extract rfl rfl) rfl rfl ?_
  refine WL.val (run_extract rfl rfl) rfl rfl ?_
  refine WL.val run_assign rfl rfl ?_
  refine WL.val run_assign rfl rfl ?_
  refine WL.nil ?_
  refine W.seq ?_
  refine W.region ?_
  refine WL.val run_move rfl rfl ?_
  refine WL.val run_move rfl rfl ?_
  refine WL.val (run_add rfl rfl (by omega) (by omega)) rfl rfl ?_
  refine WL.val (run_eqlT rfl rfl (rfl)) rfl rfl ?_
  refine WL.val run_move rfl rfl ?_
  refine WL.val run_move rfl rfl ?_
  refine WL.val (run_neqPtrNil Try.underlying49 rfl rfl) rfl rfl ?_
  refine WL.val (run_pickT rfl) rfl rfl ?_
  refine WL.val run_move rfl rfl ?_
  refine WL.val run_move rfl rfl ?_
  refine WL.eff (eff_call Try.call32 (value_ok (bt := bt2) (number := 2) (at_ := 1) (value := [98, 99]) (by decide) (h.fetch (TwinP 126 bt2 b 1 2 [98, 99])))) rfl rfl ?_
  rintro _ w ⟨a49, rfl, h⟩
  refine WL.val (run_bytesStr Try.underlying22 Try.underlying5 Try.underlying9 rfl (h.cellsO (v := .slice a49 2 2))) rfl rfl ?_
  refine WL.val (run_eqlStrT rfl rfl (rfl)) rfl rfl ?_
  refine WL.val (run_pickT rfl) rfl rfl ?_
  refine WL.val run_move rfl rfl ?_
  refine WL.val run_move rfl rfl ?_
  refine WL.eff (eff_call Try.call31 (number_ok (bt := bt2) (number := 2) (at_ := 1) (value := [98, 99]) (h.fetch (TwinP 126 bt2 b 1 2 [98, 99])))) rfl rfl ?_
  rintro _ w ⟨rfl, h⟩
  refine WL.val (run_eqlT rfl rfl (rfl)) rfl rfl ?_
  refine WL.val (run_pickT rfl) rfl rfl ?_
  refine WL.val run_move rfl rfl ?_
  refine WL.val run_move rfl rfl ?_
  refine WL.eff (eff_call Try.call32 (value_ok (bt := bt1) (number := 1 + 1) (at_ := 1) (value := [98, 99]) (by decide) (h.fetch (TwinP 126 bt1 b 1 (1 + 1) [98, 99])))) rfl rfl ?_
  rintro _ w ⟨a60, rfl, h⟩
  refine WL.val (run_bytesStr Try.underlying22 Try.underlying5 Try.underlying9 rfl (h.cellsO (v := .slice a60 2 2))) rfl rfl ?_
  refine WL.val (run_eqlStrT rfl rfl (rfl)) rfl rfl ?_
  refine WL.val (run_pickT rfl) rfl rfl ?_
  refine WL.val run_assign rfl rfl ?_
  refine WL.nil ?_
  refine W.ret ?_
  refine bodyQ.r1 (v := .bool _) Try.results24 rfl ?_
  -- path 
  exact ⟨rfl, h.to⟩

theorem blank_ok {sectors at_ : Int} (h : On W0 F w) : Calls Try.prog 6 #[.int .i64 sectors, .int .i64 at_] w (Ret fun v w' => v = .bool true ∧ On W0 F w') := by
  refine enter Try.func6 rfl Try.ntmps6 rfl ?_
  refine W.seq ?_
  refine W.region ?_
  refine WL.val run_assign rfl rfl ?_
  refine WL.nil ?_
  refine W.seq ?_
  refine W.seq ?_
  refine W.region ?_
  refine WL.eff (eff_call Try.call24 (tknown_ok h)) rfl rfl ?_
  rintro _ w ⟨rfl, h⟩
  refine WL.val (run_not rfl) rfl rfl ?_
  refine WL.nil ?_
  refine W.condF rfl ?_
  refine W.skip ?_
  refine W.seq ?_
  refine W.seq ?_
  refine W.region ?_
  refine WL.val run_move rfl rfl ?_
  refine WL.dec (run_lss rfl rfl) rfl rfl (fun c15 => ?_) (fun c15 => ?_)
  · skip
    refine WL.val run_move rfl rfl ?_
    refine WL.skip rfl rfl ?_
    refine WL.skip rfl rfl ?_
    refine WL.val (run_pickT rfl) rfl rfl ?_
    refine WL.nil ?_
    refine W.condT rfl ?_
    refine W.seq ?_
    refine W.region ?_
    refine WL.val run_assign rfl rfl ?_
    refine WL.nil ?_
    refine W.ret ?_
    refine bodyQ.r1 (v := .bool _) Try.results6 rfl ?_
    -- path T
    exact ⟨rfl, h⟩
  · skip
    refine WL.val run_move rfl rfl ?_
    refine WL.val run_move rfl rfl ?_
    refine WL.val (run_gtr rfl rfl) rfl rfl ?_
    refine WL.val (run_pickF rfl) rfl rfl ?_
    refine WL.nil ?_
    refine W.condIf rfl (fun c7 => ?_) (fun c7 => ?_)
    · skip
      refine W.seq ?_
      refine W.region ?_
      refine WL.val run_assign rfl rfl ?_
      refine WL.nil ?_
      refine W.ret ?_
      refine bodyQ.r1 (v := .bool _) Try.results6 rfl ?_
      -- path FT
      exact ⟨rfl, h⟩
    · skip
      refine W.skip ?_
      refine W.seq ?_
      refine W.region ?_
      refine WL.val run_move rfl rfl ?_
      refine WL.eff (eff_call Try.call16 (new_ok h)) rfl rfl ?_
      rintro _ w hv
      rcases hv with ⟨_, _, b, rfl, h⟩ | ⟨hno, _, _⟩
      rotate_left
      · exact absurd ⟨by omega, by omega⟩ hno
      have hst : stE (newD sectors) = 0 := rfl
      have hnn : (newD sectors).n = sectors := rfl
      have ob_ : ∃ e : Int, openT (newD sectors) at_ = (none, e) ∧ e = (if inT (newD sectors) at_ then 2 else 1) := by
        by_cases hi : inT (newD sectors) at_
        · exact ⟨_, by rw [open_blank hst hi (fun k => rfl), if_pos hi], rfl⟩
        · exact ⟨_, by rw [openT_out hi, if_neg hi], rfl⟩
      obtain ⟨e, he⟩ := ob_
      obtain ⟨ho, he⟩ := he
      refine WL.val run_move rfl rfl ?_
      refine WL.val (run_extract rfl rfl) rfl rfl ?_
      refine WL.val (run_extract rfl rfl) rfl rfl ?_
      refine WL.val run_assign rfl rfl ?_
      refine WL.val run_assign rfl rfl ?_
      refine WL.nil ?_
      refine W.seq ?_
      refine W.region ?_
      refine WL.val run_move rfl rfl ?_
      refine WL.val run_move rfl rfl ?_
      refine WL.eff (eff_call Try.call29 (open_none ho (by omega) h)) rfl rfl ?_
      rintro _ w ⟨rfl, h⟩
      refine WL.val run_move rfl rfl ?_
      refine WL.val (run_extract rfl rfl) rfl rfl ?_
      refine WL.val (run_extract rfl rfl) rfl rfl ?_
      refine WL.val run_assign rfl rfl ?_
      refine WL.val run_assign rfl rfl ?_
      refine WL.nil ?_
      refine W.seq ?_
      refine W.region ?_
      refine WL.val run_move rfl rfl ?_
      refine WL.val run_move rfl rfl ?_
      refine WL.eff (eff_call Try.call30 (format_ok (d := newD sectors) (at_ := at_) (value := []) (ax := none) (cx := 0) ⟨(by show (0 : Int) + 3 ≤ 1000000000000; decide), (by show (0 : Int) ≤ 1000000000000000000; decide)⟩ (by omega) h Gives.nilB)) rfl rfl ?_
      rintro v33 w ⟨hv33, h⟩
      have ob_ : ∃ d1, d1 = formatT (newD sectors) at_ [] := ⟨_, rfl⟩
      obtain ⟨d1, hd1⟩ := ob_
      rw [← hd1] at h hv33
      subst hv33
      refine WL.val run_assign rfl rfl ?_
      refine WL.nil ?_
      refine W.seq ?_
      refine W.seq ?_
      refine W.region ?_
      refine WL.val run_move rfl rfl ?_
      refine WL.dec (run_lss rfl rfl) rfl rfl (fun c35 => ?_) (fun c35 => ?_)
      · skip
        refine WL.val run_move rfl rfl ?_
        refine WL.skip rfl rfl ?_
        refine WL.skip rfl rfl ?_
        refine WL.skip rfl rfl ?_
        refine WL.skip rfl rfl ?_
        refine WL.val (run_pickT rfl) rfl rfl ?_
        refine WL.nil ?_
        refine W.condT rfl ?_
        refine W.seq ?_
        have hni : ¬ inT (newD sectors) at_ := fun hh => by
          obtain ⟨h1, h2⟩ := hh
          omega
        rw [if_neg hni] at he
        have hf : d1.1 = 1 := by rw [hd1]; unfold formatT; rw [if_pos hni]
        refine W.region ?_
        refine WL.val run_move rfl rfl ?_
        refine WL.val (run_eqlT rfl rfl (he)) rfl rfl ?_
        refine WL.val run_move rfl rfl ?_
        refine WL.val run_move rfl rfl ?_
        refine WL.val (run_eqlT rfl rfl (hf)) rfl rfl ?_
        refine WL.val (run_pickT rfl) rfl rfl ?_
        refine WL.val run_move rfl rfl ?_
        refine WL.val run_move rfl rfl ?_
        refine WL.val (run_eqlPtrNil Try.underlying49 rfl rfl) rfl rfl ?_
        refine WL.val (run_pickT rfl) rfl rfl ?_
        refine WL.val run_assign rfl rfl ?_
        refine WL.nil ?_
        refine W.ret ?_
        refine bodyQ.r1 (v := .bool _) Try.results6 rfl ?_
        -- path FFT
        exact ⟨rfl, h.to⟩
      · skip
        refine WL.val run_move rfl rfl ?_
        refine WL.val run_move rfl rfl ?_
        refine WL.val run_move rfl rfl ?_
        refine WL.val (run_sub rfl rfl (by omega) (by omega)) rfl rfl ?_
        refine WL.val (run_gtr rfl rfl) rfl rfl ?_
        refine WL.val (run_pickF rfl) rfl rfl ?_
        refine WL.nil ?_
        refine W.condIf rfl (fun c15 => ?_) (fun c15 => ?_)
        · skip
          refine W.seq ?_
          have hni : ¬ inT (newD sectors) at_ := fun hh => by
            obtain ⟨h1, h2⟩ := hh
            omega
          rw [if_neg hni] at he
          have hf : d1.1 = 1 := by rw [hd1]; unfold formatT; rw [if_pos hni]
          refine W.region ?_
          refine WL.val run_move rfl rfl ?_
          refine WL.val (run_eqlT rfl rfl (he)) rfl rfl ?_
          refine WL.val run_move rfl rfl ?_
          refine WL.val run_move rfl rfl ?_
          refine WL.val (run_eqlT rfl rfl (hf)) rfl rfl ?_
          refine WL.val (run_pickT rfl) rfl rfl ?_
          refine WL.val run_move rfl rfl ?_
          refine WL.val run_move rfl rfl ?_
          refine WL.val (run_eqlPtrNil Try.underlying49 rfl rfl) rfl rfl ?_
          refine WL.val (run_pickT rfl) rfl rfl ?_
          refine WL.val run_assign rfl rfl ?_
          refine WL.nil ?_
          refine W.ret ?_
          refine bodyQ.r1 (v := .bool _) Try.results6 rfl ?_
          -- path FFFT
          exact ⟨rfl, h.to⟩
        · skip
          refine W.skip ?_
          refine W.seq ?_
          have hin : inT (newD sectors) at_ := ⟨by omega, by omega⟩
          rw [if_pos hin] at he
          have hl0 : ([] : List UInt8).length ≤ 488 := by decide
          have I := TwI.format (newLive sectors) hin hl0
          have ob_ := format_live (newLive sectors) hin hl0
          obtain ⟨hf, _, hfn, _, _⟩ := ob_
          rw [← hd1] at I hf hfn
          refine W.region ?_
          refine WL.val run_move rfl rfl ?_
          refine WL.val run_move rfl rfl ?_
          refine WL.eff (eff_call Try.call29 (open_found I (by omega) h)) rfl rfl ?_
          rintro _ w ⟨bt, rfl, h⟩
          refine WL.val run_move rfl rfl ?_
          refine WL.val (run_extract rfl rfl) rfl rfl ?_
          refine WL.val (run_extract rfl rfl) rfl rfl ?_
          refine WL.val run_assign rfl rfl ?_
          refine WL.val run_assign rfl rfl ?_
          refine WL.nil ?_
          refine W.seq ?_
          refine W.region ?_
          refine WL.val run_move rfl rfl ?_
          refine WL.val (run_eqlT rfl rfl (he)) rfl rfl ?_
          refine WL.val run_move rfl rfl ?_
          refine WL.val run_move rfl rfl ?_
          refine WL.val (run_eqlPtrNil Try.underlying49 rfl rfl) rfl rfl ?_
          refine WL.val (run_pickT rfl) rfl rfl ?_
          refine WL.val run_move rfl rfl ?_
          refine WL.val run_move rfl rfl ?_
          refine WL.val run_move rfl rfl ?_
          refine WL.val (run_add rfl rfl (by omega) (by omega)) rfl rfl ?_
          refine WL.val (run_eqlT rfl rfl (by rw [hf]; decide)) rfl rfl ?_
          refine WL.val (run_pickT rfl) rfl rfl ?_
          refine WL.val run_move rfl rfl ?_
          refine WL.val run_move rfl rfl ?_
          refine WL.eff (eff_call Try.call31 (number_ok (bt := bt) (number := 1) (at_ := at_) (value := []) h)) rfl rfl ?_
          rintro _ w ⟨rfl, h⟩
          refine WL.val (run_eqlT rfl rfl (rfl)) rfl rfl ?_
          refine WL.val (run_pickT rfl) rfl rfl ?_
          refine WL.val run_move rfl rfl ?_
          refine WL.val run_move rfl rfl ?_
          refine WL.eff (eff_call Try.call32 (value_ok (bt := bt) (number := 1) (at_ := at_) (value := []) (by decide) h)) rfl rfl ?_
          rintro _ w ⟨a77, rfl, h⟩
          refine WL.val (run_lenSlice Try.underlying22 rfl) rfl rfl ?_
          refine WL.val (run_eqlT rfl rfl (rfl)) rfl rfl ?_
          refine WL.val (run_pickT rfl) rfl rfl ?_
          refine WL.val run_assign rfl rfl ?_
          refine WL.nil ?_
          refine W.ret ?_
          refine bodyQ.r1 (v := .bool _) Try.results6 rfl ?_
          -- path FFFF
          exact ⟨rfl, h.to⟩

theorem tbytes_ok {a0 a1 : Option Addr} {c0 c1 number : Nat} {value s : List UInt8} (hnum : number < 18446744073709551616) (h : On W0 F w) (C0 : Gives F (Bytes (.slice a0 value.length c0) value)) (C1 : Gives F (Bytes (.slice a1 s.length c1) s)) : Calls Try.prog 5 #[.int .u64 (number : Int), .slice a0 value.length c0, .slice a1 s.length c1] w (Ret fun v w' => v = .bool true ∧ On W0 F w') := by
  refine enter Try.func5 rfl Try.ntmps5 rfl ?_
  refine W.seq ?_
  refine W.region ?_
  refine WL.val run_assign rfl rfl ?_
  refine WL.nil ?_
  refine W.seq ?_
  refine W.seq ?_
  refine W.region ?_
  refine WL.eff (eff_call Try.call24 (tknown_ok h)) rfl rfl ?_
  rintro _ w ⟨rfl, h⟩
  refine WL.val (run_not rfl) rfl rfl ?_
  refine WL.nil ?_
  refine W.condF rfl ?_
  refine W.skip ?_
  refine W.seq ?_
  refine W.seq ?_
  refine W.region ?_
  refine WL.val run_move rfl rfl ?_
  refine WL.val (run_lenSlice Try.underlying22 rfl) rfl rfl ?_
  refine WL.dec (run_gtr rfl rfl) rfl rfl (fun c21 => ?_) (fun c21 => ?_)
  · skip
    refine WL.val run_move rfl rfl ?_
    refine WL.skip rfl rfl ?_
    refine WL.skip rfl rfl ?_
    refine WL.skip rfl rfl ?_
    refine WL.val (run_pickT rfl) rfl rfl ?_
    refine WL.nil ?_
    refine W.condT rfl ?_
    refine W.seq ?_
    refine W.region ?_
    refine WL.val run_assign rfl rfl ?_
    refine WL.nil ?_
    refine W.ret ?_
    refine bodyQ.r1 (v := .bool _) Try.results5 rfl ?_
    -- path T
    exact ⟨rfl, h⟩
  · skip
    refine WL.val run_move rfl rfl ?_
    refine WL.val run_move rfl rfl ?_
    refine WL.val (run_lenSlice Try.underlying22 rfl) rfl rfl ?_
    refine WL.val (run_gtr rfl rfl) rfl rfl ?_
    refine WL.val (run_pickF rfl) rfl rfl ?_
    refine WL.nil ?_
    refine W.condIf rfl (fun c7 => ?_) (fun c7 => ?_)
    · skip
      refine W.seq ?_
      refine W.region ?_
      refine WL.val run_assign rfl rfl ?_
      refine WL.nil ?_
      refine W.ret ?_
      refine bodyQ.r1 (v := .bool _) Try.results5 rfl ?_
      -- path FT
      exact ⟨rfl, h⟩
    · skip
      refine W.skip ?_
      refine W.seq ?_
      refine W.region ?_
      refine WL.val run_move rfl rfl ?_
      refine WL.val run_move rfl rfl ?_
      refine WL.eff (eff_call Try.call25 (pack_ok hnum h C0)) rfl rfl ?_
      rintro _ w hg
      rcases hg with ⟨hlv, a30, rfl, h⟩ | ⟨hlv, rfl, h⟩
      · skip
        refine WL.val run_move rfl rfl ?_
        refine WL.val (run_extract rfl rfl) rfl rfl ?_
        refine WL.val (run_extract rfl rfl) rfl rfl ?_
        refine WL.val run_assign rfl rfl ?_
        refine WL.val run_assign rfl rfl ?_
        refine WL.nil ?_
        refine W.seq ?_
        refine W.region ?_
        refine WL.val run_move rfl rfl ?_
        refine WL.val run_move rfl rfl ?_
        refine WL.eff (eff_call Try.call26 (rpack_ok hnum h (Gives.to C0))) rfl rfl ?_
        rintro _ w hg
        rcases hg with ⟨_, _, a36, c36, rfl, h⟩ | ⟨hno, _, _⟩
        rotate_left
        · omega
        refine WL.val run_move rfl rfl ?_
        refine WL.val (run_extract rfl rfl) rfl rfl ?_
        refine WL.val (run_extract rfl rfl) rfl rfl ?_
        refine WL.val run_assign rfl rfl ?_
        refine WL.val run_assign rfl rfl ?_
        refine WL.nil ?_
        refine W.seq ?_
        refine W.region ?_
        refine WL.val run_move rfl rfl ?_
        refine WL.eff (eff_call Try.call27 (unpack_ok h (Gives.to C1) (by omega))) rfl rfl ?_
        rintro _ w hg
        rcases hg with ⟨hu41, a41, c41, rfl, h⟩ | ⟨hu41, rfl, h⟩
        · skip
          refine WL.val run_move rfl rfl ?_
          refine WL.val (run_extract rfl rfl) rfl rfl ?_
          refine WL.val (run_extract rfl rfl) rfl rfl ?_
          refine WL.val (run_extract rfl rfl) rfl rfl ?_
          refine WL.val run_assign rfl rfl ?_
          refine WL.val run_assign rfl rfl ?_
          refine WL.val run_assign rfl rfl ?_
          refine WL.nil ?_
          refine W.seq ?_
          refine W.region ?_
          refine WL.val run_move rfl rfl ?_
          refine WL.eff (eff_call Try.call28 (runpack_ok h (Gives.to C1) (by omega))) rfl rfl ?_
          rintro _ w hg
          rcases hg with ⟨_, a47, c47, rfl, h⟩ | ⟨hno, _, _⟩
          rotate_left
          · exact absurd hu41 hno
          refine WL.val run_move rfl rfl ?_
          refine WL.val (run_extract rfl rfl) rfl rfl ?_
          refine WL.val (run_extract rfl rfl) rfl rfl ?_
          refine WL.val (run_extract rfl rfl) rfl rfl ?_
          refine WL.val run_assign rfl rfl ?_
          refine WL.val run_assign rfl rfl ?_
          refine WL.val run_assign rfl rfl ?_
          refine WL.nil ?_
          refine W.seq ?_
          refine W.seq ?_
          refine W.region ?_
          refine WL.val run_move rfl rfl ?_
          refine WL.val (run_bytesStr Try.underlying22 Try.underlying5 Try.underlying9 rfl (h.cellsO (v := .slice a30 (secT number value).length (secT number value).length))) rfl rfl ?_
          refine WL.val run_move rfl rfl ?_
          refine WL.val (run_bytesStr Try.underlying22 Try.underlying5 Try.underlying9 rfl (h.cellsO (v := .slice a36 (secT number value).length c36))) rfl rfl ?_
          refine WL.val (run_neqStrF rfl rfl rfl) rfl rfl ?_
          refine WL.val run_move rfl rfl ?_
          refine WL.val run_move rfl rfl ?_
          refine WL.val run_move rfl rfl ?_
          refine WL.val (run_neqF rfl rfl (rfl)) rfl rfl ?_
          refine WL.val (run_pickF rfl) rfl rfl ?_
          refine WL.val run_move rfl rfl ?_
          refine WL.val run_move rfl rfl ?_
          refine WL.val run_move rfl rfl ?_
          refine WL.val (run_neqF rfl rfl (rfl)) rfl rfl ?_
          refine WL.val (run_pickF rfl) rfl rfl ?_
          refine WL.val run_move rfl rfl ?_
          refine WL.val run_move rfl rfl ?_
          refine WL.val (run_bytesStr Try.underlying22 Try.underlying5 Try.underlying9 rfl (h.cellsO (v := .slice a41 (unpackT s).2.1.length c41))) rfl rfl ?_
          refine WL.val run_move rfl rfl ?_
          refine WL.val (run_bytesStr Try.underlying22 Try.underlying5 Try.underlying9 rfl (h.cellsO (v := .slice a47 (unpackT s).2.1.length c47))) rfl rfl ?_
          refine WL.val (run_neqStrF rfl rfl rfl) rfl rfl ?_
          refine WL.val (run_pickF rfl) rfl rfl ?_
          refine WL.val run_move rfl rfl ?_
          refine WL.val run_move rfl rfl ?_
          refine WL.val run_move rfl rfl ?_
          refine WL.val (run_neqF rfl rfl (rfl)) rfl rfl ?_
          refine WL.val (run_pickF rfl) rfl rfl ?_
          refine WL.nil ?_
          refine W.condF rfl ?_
          refine W.skip ?_
          refine W.seq ?_
          refine W.seq ?_
          refine W.region ?_
          refine WL.val run_move rfl rfl ?_
          refine WL.val (run_neqF rfl rfl (rfl)) rfl rfl ?_
          refine WL.nil ?_
          refine W.condF rfl ?_
          refine W.skip ?_
          refine W.seq ?_
          refine W.region ?_
          refine WL.val run_move rfl rfl ?_
          refine WL.eff (eff_call Try.call27 (unpack_ok (s := secT number value) h (Gives.ownO (v := .slice a30 (secT number value).length (secT number value).length)) (by rw [secT_length hlv]; decide))) rfl rfl ?_
          rintro _ w hg
          rw [unpack_sec (show number < 256 ^ 8 from hnum) hlv] at hg
          rcases hg with ⟨_, a85, c85, rfl, h⟩ | ⟨hno, _, _⟩
          rotate_left
          · exact absurd rfl hno
          refine WL.val run_move rfl rfl ?_
          refine WL.val (run_extract rfl rfl) rfl rfl ?_
          refine WL.val (run_extract rfl rfl) rfl rfl ?_
          refine WL.val (run_extract rfl rfl) rfl rfl ?_
          refine WL.val run_assign rfl rfl ?_
          refine WL.val run_assign rfl rfl ?_
          refine WL.val run_assign rfl rfl ?_
          refine WL.nil ?_
          refine W.seq ?_
          refine W.region ?_
          refine WL.val run_move rfl rfl ?_
          refine WL.val (run_eqlT rfl rfl (rfl)) rfl rfl ?_
          refine WL.val run_move rfl rfl ?_
          refine WL.val run_move rfl rfl ?_
          refine WL.val run_move rfl rfl ?_
          refine WL.val (run_eqlT rfl rfl (rfl)) rfl rfl ?_
          refine WL.val (run_pickT rfl) rfl rfl ?_
          refine WL.val run_move rfl rfl ?_
          refine WL.val run_move rfl rfl ?_
          refine WL.val (run_bytesStr Try.underlying22 Try.underlying5 Try.underlying9 rfl (h.cellsO (v := .slice a85 value.length c85))) rfl rfl ?_
          refine WL.val run_move rfl rfl ?_
          refine WL.val (run_bytesStr Try.underlying22 Try.underlying5 Try.underlying9 rfl (h.readsTo C0)) rfl rfl ?_
          refine WL.val (run_eqlStrT rfl rfl (rfl)) rfl rfl ?_
          refine WL.val (run_pickT rfl) rfl rfl ?_
          refine WL.val run_assign rfl rfl ?_
          refine WL.nil ?_
          refine W.ret ?_
          refine bodyQ.r1 (v := .bool _) Try.results5 rfl ?_
          -- path FFTT
          exact ⟨rfl, h.to⟩
        · skip
          refine WL.val run_move rfl rfl ?_
          refine WL.val (run_extract rfl rfl) rfl rfl ?_
          refine WL.val (run_extract rfl rfl) rfl rfl ?_
          refine WL.val (run_extract rfl rfl) rfl rfl ?_
          refine WL.val run_assign rfl rfl ?_
          refine WL.val run_assign rfl rfl ?_
          refine WL.val run_assign rfl rfl ?_
          refine WL.nil ?_
          refine W.seq ?_
          refine W.region ?_
          refine WL.val run_move rfl rfl ?_
          refine WL.eff (eff_call Try.call28 (runpack_ok h (Gives.to C1) (by omega))) rfl rfl ?_
          rintro _ w hg
          rcases hg with ⟨hno, _⟩ | ⟨_, rfl, h⟩
          · exact absurd hno hu41
          refine WL.val run_move rfl rfl ?_
          refine WL.val (run_extract rfl rfl) rfl rfl ?_
          refine WL.val (run_extract rfl rfl) rfl rfl ?_
          refine WL.val (run_extract rfl rfl) rfl rfl ?_
          refine WL.val run_assign rfl rfl ?_
          refine WL.val run_assign rfl rfl ?_
          refine WL.val run_assign rfl rfl ?_
          refine WL.nil ?_
          refine W.seq ?_
          refine W.seq ?_
          refine W.region ?_
          refine WL.val run_move rfl rfl ?_
          refine WL.val (run_bytesStr Try.underlying22 Try.underlying5 Try.underlying9 rfl (h.cellsO (v := .slice a30 (secT number value).length (secT number value).length))) rfl rfl ?_
          refine WL.val run_move rfl rfl ?_
          refine WL.val (run_bytesStr Try.underlying22 Try.underlying5 Try.underlying9 rfl (h.cellsO (v := .slice a36 (secT number value).length c36))) rfl rfl ?_
          refine WL.val (run_neqStrF rfl rfl rfl) rfl rfl ?_
          refine WL.val run_move rfl rfl ?_
          refine WL.val run_move rfl rfl ?_
          refine WL.val run_move rfl rfl ?_
          refine WL.val (run_neqF rfl rfl (rfl)) rfl rfl ?_
          refine WL.val (run_pickF rfl) rfl rfl ?_
          refine WL.val run_move rfl rfl ?_
          refine WL.val run_move rfl rfl ?_
          refine WL.val run_move rfl rfl ?_
          refine WL.val (run_neqF rfl rfl (rfl)) rfl rfl ?_
          refine WL.val (run_pickF rfl) rfl rfl ?_
          refine WL.val run_move rfl rfl ?_
          refine WL.val run_move rfl rfl ?_
          refine WL.val (run_bytesStr Try.underlying22 Try.underlying5 Try.underlying9 rfl (h.readsTo (Gives.nilB (L := F)))) rfl rfl ?_
          refine WL.val run_move rfl rfl ?_
          refine WL.val (run_bytesStr Try.underlying22 Try.underlying5 Try.underlying9 rfl (h.readsTo (Gives.nilB (L := F)))) rfl rfl ?_
          refine WL.val (run_neqStrF rfl rfl rfl) rfl rfl ?_
          refine WL.val (run_pickF rfl) rfl rfl ?_
          refine WL.val run_move rfl rfl ?_
          refine WL.val run_move rfl rfl ?_
          refine WL.val run_move rfl rfl ?_
          refine WL.val (run_neqF rfl rfl (rfl)) rfl rfl ?_
          refine WL.val (run_pickF rfl) rfl rfl ?_
          refine WL.nil ?_
          refine W.condF rfl ?_
          refine W.skip ?_
          refine W.seq ?_
          refine W.seq ?_
          refine W.region ?_
          refine WL.val run_move rfl rfl ?_
          refine WL.val (run_neqF rfl rfl (rfl)) rfl rfl ?_
          refine WL.nil ?_
          refine W.condF rfl ?_
          refine W.skip ?_
          refine W.seq ?_
          refine W.region ?_
          refine WL.val run_move rfl rfl ?_
          refine WL.eff (eff_call Try.call27 (unpack_ok (s := secT number value) h (Gives.ownO (v := .slice a30 (secT number value).length (secT number value).length)) (by rw [secT_length hlv]; decide))) rfl rfl ?_
          rintro _ w hg
          rw [unpack_sec (show number < 256 ^ 8 from hnum) hlv] at hg
          rcases hg with ⟨_, a85, c85, rfl, h⟩ | ⟨hno, _, _⟩
          rotate_left
          · exact absurd rfl hno
          refine WL.val run_move rfl rfl ?_
          refine WL.val (run_extract rfl rfl) rfl rfl ?_
          refine WL.val (run_extract rfl rfl) rfl rfl ?_
          refine WL.val (run_extract rfl rfl) rfl rfl ?_
          refine WL.val run_assign rfl rfl ?_
          refine WL.val run_assign rfl rfl ?_
          refine WL.val run_assign rfl rfl ?_
          refine WL.nil ?_
          refine W.seq ?_
          refine W.region ?_
          refine WL.val run_move rfl rfl ?_
          refine WL.val (run_eqlT rfl rfl (rfl)) rfl rfl ?_
          refine WL.val run_move rfl rfl ?_
          refine WL.val run_move rfl rfl ?_
          refine WL.val run_move rfl rfl ?_
          refine WL.val (run_eqlT rfl rfl (rfl)) rfl rfl ?_
          refine WL.val (run_pickT rfl) rfl rfl ?_
          refine WL.val run_move rfl rfl ?_
          refine WL.val run_move rfl rfl ?_
          refine WL.val (run_bytesStr Try.underlying22 Try.underlying5 Try.underlying9 rfl (h.cellsO (v := .slice a85 value.length c85))) rfl rfl ?_
          refine WL.val run_move rfl rfl ?_
          refine WL.val (run_bytesStr Try.underlying22 Try.underlying5 Try.underlying9 rfl (h.readsTo C0)) rfl rfl ?_
          refine WL.val (run_eqlStrT rfl rfl (rfl)) rfl rfl ?_
          refine WL.val (run_pickT rfl) rfl rfl ?_
          refine WL.val run_assign rfl rfl ?_
          refine WL.nil ?_
          refine W.ret ?_
          refine bodyQ.r1 (v := .bool _) Try.results5 rfl ?_
          -- path FFTF
          exact ⟨rfl, h.to⟩
      · skip
        refine WL.val run_move rfl rfl ?_
        refine WL.val (run_extract rfl rfl) rfl rfl ?_
        refine WL.val (run_extract rfl rfl) rfl rfl ?_
        refine WL.val run_assign rfl rfl ?_
        refine WL.val run_assign rfl rfl ?_
        refine WL.nil ?_
        refine W.seq ?_
        refine W.region ?_
        refine WL.val run_move rfl rfl ?_
        refine WL.val run_move rfl rfl ?_
        refine WL.eff (eff_call Try.call26 (rpack_ok hnum h C0)) rfl rfl ?_
        rintro _ w hg
        rcases hg with ⟨_, hno, _⟩ | ⟨_, rfl, h⟩
        · omega
        refine WL.val run_move rfl rfl ?_
        refine WL.val (run_extract rfl rfl) rfl rfl ?_
        refine WL.val (run_extract rfl rfl) rfl rfl ?_
        refine WL.val run_assign rfl rfl ?_
        refine WL.val run_assign rfl rfl ?_
        refine WL.nil ?_
        refine W.seq ?_
        refine W.region ?_
        refine WL.val run_move rfl rfl ?_
        refine WL.eff (eff_call Try.call27 (unpack_ok h (Gives.to C1) (by omega))) rfl rfl ?_
        rintro _ w hg
        rcases hg with ⟨hu41, a41, c41, rfl, h⟩ | ⟨hu41, rfl, h⟩
        · skip
          refine WL.val run_move rfl rfl ?_
          refine WL.val (run_extract rfl rfl) rfl rfl ?_
          refine WL.val (run_extract rfl rfl) rfl rfl ?_
          refine WL.val (run_extract rfl rfl) rfl rfl ?_
          refine WL.val run_assign rfl rfl ?_
          refine WL.val run_assign rfl rfl ?_
          refine WL.val run_assign rfl rfl ?_
          refine WL.nil ?_
          refine W.seq ?_
          refine W.region ?_
          refine WL.val run_move rfl rfl ?_
          refine WL.eff (eff_call Try.call28 (runpack_ok h (Gives.to C1) (by omega))) rfl rfl ?_
          rintro _ w hg
          rcases hg with ⟨_, a47, c47, rfl, h⟩ | ⟨hno, _, _⟩
          rotate_left
          · exact absurd hu41 hno
          refine WL.val run_move rfl rfl ?_
          refine WL.val (run_extract rfl rfl) rfl rfl ?_
          refine WL.val (run_extract rfl rfl) rfl rfl ?_
          refine WL.val (run_extract rfl rfl) rfl rfl ?_
          refine WL.val run_assign rfl rfl ?_
          refine WL.val run_assign rfl rfl ?_
          refine WL.val run_assign rfl rfl ?_
          refine WL.nil ?_
          refine W.seq ?_
          refine W.seq ?_
          refine W.region ?_
          refine WL.val run_move rfl rfl ?_
          refine WL.val (run_bytesStr Try.underlying22 Try.underlying5 Try.underlying9 rfl (h.readsTo (Gives.nilB (L := F)))) rfl rfl ?_
          refine WL.val run_move rfl rfl ?_
          refine WL.val (run_bytesStr Try.underlying22 Try.underlying5 Try.underlying9 rfl (h.readsTo (Gives.nilB (L := F)))) rfl rfl ?_
          refine WL.val (run_neqStrF rfl rfl rfl) rfl rfl ?_
          refine WL.val run_move rfl rfl ?_
          refine WL.val run_move rfl rfl ?_
          refine WL.val run_move rfl rfl ?_
          refine WL.val (run_neqF rfl rfl (rfl)) rfl rfl ?_
          refine WL.val (run_pickF rfl) rfl rfl ?_
          refine WL.val run_move rfl rfl ?_
          refine WL.val run_move rfl rfl ?_
          refine WL.val run_move rfl rfl ?_
          refine WL.val (run_neqF rfl rfl (rfl)) rfl rfl ?_
          refine WL.val (run_pickF rfl) rfl rfl ?_
          refine WL.val run_move rfl rfl ?_
          refine WL.val run_move rfl rfl ?_
          refine WL.val (run_bytesStr Try.underlying22 Try.underlying5 Try.underlying9 rfl (h.cellsO (v := .slice a41 (unpackT s).2.1.length c41))) rfl rfl ?_
          refine WL.val run_move rfl rfl ?_
          refine WL.val (run_bytesStr Try.underlying22 Try.underlying5 Try.underlying9 rfl (h.cellsO (v := .slice a47 (unpackT s).2.1.length c47))) rfl rfl ?_
          refine WL.val (run_neqStrF rfl rfl rfl) rfl rfl ?_
          refine WL.val (run_pickF rfl) rfl rfl ?_
          refine WL.val run_move rfl rfl ?_
          refine WL.val run_move rfl rfl ?_
          refine WL.val run_move rfl rfl ?_
          refine WL.val (run_neqF rfl rfl (rfl)) rfl rfl ?_
          refine WL.val (run_pickF rfl) rfl rfl ?_
          refine WL.nil ?_
          refine W.condF rfl ?_
          refine W.skip ?_
          refine W.seq ?_
          refine W.seq ?_
          refine W.region ?_
          refine WL.val run_move rfl rfl ?_
          refine WL.val (run_neqT rfl rfl (by decide)) rfl rfl ?_
          refine WL.nil ?_
          refine W.condT rfl ?_
          refine W.seq ?_
          refine W.region ?_
          refine WL.val run_move rfl rfl ?_
          refine WL.val (run_lenSlice Try.underlying22 rfl) rfl rfl ?_
          refine WL.val (run_eqlT rfl rfl (rfl)) rfl rfl ?_
          refine WL.val run_assign rfl rfl ?_
          refine WL.nil ?_
          refine W.ret ?_
          refine bodyQ.r1 (v := .bool _) Try.results5 rfl ?_
          -- path FFFT
          exact ⟨rfl, h.to⟩
        · skip
          refine WL.val run_move rfl rfl ?_
          refine WL.val (run_extract rfl rfl) rfl rfl ?_
          refine WL.val (run_extract rfl rfl) rfl rfl ?_
          refine WL.val (run_extract rfl rfl) rfl rfl ?_
          refine WL.val run_assign rfl rfl ?_
          refine WL.val run_assign rfl rfl ?_
          refine WL.val run_assign rfl rfl ?_
          refine WL.nil ?_
          refine W.seq ?_
          refine W.region ?_
          refine WL.val run_move rfl rfl ?_
          refine WL.eff (eff_call Try.call28 (runpack_ok h (Gives.to C1) (by omega))) rfl rfl ?_
          rintro _ w hg
          rcases hg with ⟨hno, _⟩ | ⟨_, rfl, h⟩
          · exact absurd hno hu41
          refine WL.val run_move rfl rfl ?_
          refine WL.val (run_extract rfl rfl) rfl rfl ?_
          refine WL.val (run_extract rfl rfl) rfl rfl ?_
          refine WL.val (run_extract rfl rfl) rfl rfl ?_
          refine WL.val run_assign rfl rfl ?_
          refine WL.val run_assign rfl rfl ?_
          refine WL.val run_assign rfl rfl ?_
          refine WL.nil ?_
          refine W.seq ?_
          refine W.seq ?_
          refine W.region ?_
          refine WL.val run_move rfl rfl ?_
          refine WL.val (run_bytesStr Try.underlying22 Try.underlying5 Try.underlying9 rfl (h.readsTo (Gives.nilB (L := F)))) rfl rfl ?_
          refine WL.val run_move rfl rfl ?_
          refine WL.val (run_bytesStr Try.underlying22 Try.underlying5 Try.underlying9 rfl (h.readsTo (Gives.nilB (L := F)))) rfl rfl ?_
          refine WL.val (run_neqStrF rfl rfl rfl) rfl rfl ?_
          refine WL.val run_move rfl rfl ?_
          refine WL.val run_move rfl rfl ?_
          refine WL.val run_move rfl rfl ?_
          refine WL.val (run_neqF rfl rfl (rfl)) rfl rfl ?_
          refine WL.val (run_pickF rfl) rfl rfl ?_
          refine WL.val run_move rfl rfl ?_
          refine WL.val run_move rfl rfl ?_
          refine WL.val run_move rfl rfl ?_
          refine WL.val (run_neqF rfl rfl (rfl)) rfl rfl ?_
          refine WL.val (run_pickF rfl) rfl rfl ?_
          refine WL.val run_move rfl rfl ?_
          refine WL.val run_move rfl rfl ?_
          refine WL.val (run_bytesStr Try.underlying22 Try.underlying5 Try.underlying9 rfl (h.readsTo (Gives.nilB (L := F)))) rfl rfl ?_
          refine WL.val run_move rfl rfl ?_
          refine WL.val (run_bytesStr Try.underlying22 Try.underlying5 Try.underlying9 rfl (h.readsTo (Gives.nilB (L := F)))) rfl rfl ?_
          refine WL.val (run_neqStrF rfl rfl rfl) rfl rfl ?_
          refine WL.val (run_pickF rfl) rfl rfl ?_
          refine WL.val run_move rfl rfl ?_
          refine WL.val run_move rfl rfl ?_
          refine WL.val run_move rfl rfl ?_
          refine WL.val (run_neqF rfl rfl (rfl)) rfl rfl ?_
          refine WL.val (run_pickF rfl) rfl rfl ?_
          refine WL.nil ?_
          refine W.condF rfl ?_
          refine W.skip ?_
          refine W.seq ?_
          refine W.seq ?_
          refine W.region ?_
          refine WL.val run_move rfl rfl ?_
          refine WL.val (run_neqT rfl rfl (by decide)) rfl rfl ?_
          refine WL.nil ?_
          refine W.condT rfl ?_
          refine W.seq ?_
          refine W.region ?_
          refine WL.val run_move rfl rfl ?_
          refine WL.val (run_lenSlice Try.underlying22 rfl) rfl rfl ?_
          refine WL.val (run_eqlT rfl rfl (rfl)) rfl rfl ?_
          refine WL.val run_assign rfl rfl ?_
          refine WL.nil ?_
          refine W.ret ?_
          refine bodyQ.r1 (v := .bool _) Try.results5 rfl ?_
          -- path FFFF
          exact ⟨rfl, h.to⟩

end Go.Proofs.Ytlahgihjjabgmaa
