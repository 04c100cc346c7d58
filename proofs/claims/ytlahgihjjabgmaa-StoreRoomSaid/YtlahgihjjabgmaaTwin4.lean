/-
  Values on two sectors, on a disk: Open, Put. Lines of walks printed by a program of the prover's.
-/
import Derived.Test.YtlahgihjjabgmaaTwin3
namespace Go.Proofs.Ytlahgihjjabgmaa
open Go Go.Sl Go.Sl.ByM Go.Sl.DkM Go.Sl.TwM
set_option linter.unusedVariables false
set_option linter.unusedSimpArgs false
set_option maxHeartbeats 1000000
set_option maxRecDepth 8000
variable {W0 w : World} {L F : List HProp}

theorem unpackN_ok {ax : Option Addr} {cx n : Nat} {s : List UInt8} (hn : s.length = n) (h : On W0 L w) (C : Gives L (Cells 1 (.slice ax n cx) n (bytesV s))) (hsl : n ≤ 1000000) : Calls Try.prog 27 #[.slice ax n cx] w (Ret fun v w' => ((unpackT s).2.2 = 0 ∧ ∃ a c, v = .tuple #[.int .u64 ((unpackT s).1 : Int), .slice a (unpackT s).2.1.length c, .int .i64 0] ∧ On W0 (OwnB (.slice a (unpackT s).2.1.length c) (unpackT s).2.1 :: L) w') ∨ ((unpackT s).2.2 ≠ 0 ∧ v = .tuple #[.int .u64 0, .slice none 0 0, .int .i64 (unpackT s).2.2] ∧ On W0 L w')) := by
  subst hn
  exact unpack_ok h C hsl

theorem open_ok2 {b : Nat} {d : Dk} {at_ : Int} (hn : 0 ≤ d.n) (h : On W0 (DiskP 106 110 b d :: L) w) : Calls Try.prog 29 #[.pointer (some ⟨b, 0, none⟩), .int .i64 at_] w (Ret fun v w' => (∃ bt n val, openT d at_ = (some (n, val), 0) ∧ v = .tuple #[.pointer (some ⟨bt, 0, none⟩), .int .i64 0] ∧ On W0 (TwinP 126 bt b at_ n val :: DiskP 106 110 b d :: L) w') ∨ ((openT d at_).1 = none ∧ (openT d at_).2 ≠ 0 ∧ v = .tuple #[.pointer none, .int .i64 (openT d at_).2] ∧ On W0 (DiskP 106 110 b d :: L) w')) := by
  refine enter Try.func29 rfl Try.ntmps29 rfl ?_
  have hok := diskOk h
  have hn4 := hok.1
  refine W.seq ?_
  refine W.region ?_
  refine WL.val run_assign rfl rfl ?_
  refine WL.val run_assign rfl rfl ?_
  refine WL.nil ?_
  refine W.scope ?_
  refine W.seq ?_
  refine W.seq ?_
  refine W.region ?_
  refine WL.val run_move rfl rfl ?_
  refine WL.val run_move rfl rfl ?_
  refine WL.eff (eff_call Try.call84 (in_ok hn h)) rfl rfl ?_
  rintro _ w ⟨rfl, h⟩
  refine WL.val (run_notDec rfl) rfl rfl ?_
  refine WL.nil ?_
  refine W.condIf rfl (fun c3 => ?_) (fun c3 => ?_)
  · skip
    refine W.seq ?_
    refine W.region ?_
    refine WL.val run_assign rfl rfl ?_
    refine WL.val run_assign rfl rfl ?_
    refine WL.nil ?_
    refine W.ret ?_
    refine bodyQ.r2 (v1 := .pointer _) (v2 := .int .i64 _) Try.results29 rfl rfl ?_
    -- path T
    have e := openT_out c3
    exact .inr ⟨by rw [e], by rw [e]; decide, by rw [e], h⟩
  · skip
    refine W.skip ?_
    refine W.seq ?_
    refine W.region ?_
    refine WL.val run_move rfl rfl ?_
    refine WL.val run_move rfl rfl ?_
    refine WL.val (run_buildS (pl := [(0, 1), (1, 1), (2, 1), (3, 1)]) (out := [.pointer _, .int .i64 _, .int .u64 _, .slice _ _ _]) Try.underlying126 Try.zeroValue126 (fun w => by kernel_rfl) rfl (⟨⟨_, _, rfl, rfl, by decide⟩, ⟨⟨_, _, rfl, rfl, by decide⟩, trivial⟩⟩) rfl) rfl rfl ?_
    refine WL.eff (eff_box (v := .agg _) (l := [.pointer _, .int .i64 _, .int .u64 _, .slice _ _ _]) h rfl rfl) rfl rfl ?_
    rintro _ w ⟨b20, rfl, h⟩
    refine WL.val run_assign rfl rfl ?_
    refine WL.nil ?_
    refine W.seq ?_
    refine W.region ?_
    refine WL.val run_assign rfl rfl ?_
    refine WL.nil ?_
    refine W.seq ?_
    have hin := Decidable.not_not.1 c3
    have hin12 := hin
    obtain ⟨hin1, hin2⟩ := hin12
    have h := closeTw (TT := 126) (bt := b20) (b := b) (at_ := at_) (a := none) (c := 0) (number := 0) (value := []) (L := DiskP 106 110 b d :: L) (by decide) ((h.ownEmpty 1 none).p1)
    refine W.label ?_
    refine W.seq ?_
    refine W.seq ?_
    refine W.region ?_
    refine WL.val run_move rfl rfl ?_
    refine WL.nil ?_
    refine W.block ?_
    refine W.loop (fun (i : Nat) env w => i ≤ 2 ∧ (0 < i → stE d = 0) ∧ ∃ jk, env = mkE jk [(0, .pointer (some ⟨b, 0, none⟩)), (1, .int .i64 at_), (6, .pointer (some ⟨b20, 0, none⟩)), (7, .bool (openAcc d at_ i).isSome), (21, .int .i64 (i : Nat))] ∧ On W0 (TwinP 126 b20 b at_ (tvN (openAcc d at_ i)) (tvV (openAcc d at_ i)) :: DiskP 106 110 b d :: L) w) (fun i => 2 - i) (0) ?_ ?_
    · exact ⟨by omega, fun hh => absurd hh (by decide), _, mkE_of ⟨rfl, rfl, rfl, rfl, rfl, trivial⟩, h⟩
    · rintro i env w ⟨hi, hst0, jk, rfl, h⟩
      refine W.seq ?_
      refine W.region ?_
      refine WL.val (run_lss rfl rfl) rfl rfl ?_
      refine WL.nil ?_
      refine W.seq ?_
      refine W.condIf rfl (fun c14 => ?_) (fun c14 => ?_)
      · skip
        refine W.skip ?_
        refine W.seq ?_
        refine W.block ?_
        refine W.seq ?_
        have hi2 : i < 2 := by omega
        refine W.region ?_
        refine WL.val run_move rfl rfl ?_
        refine WL.val run_assign rfl rfl ?_
        refine WL.nil ?_
        refine W.seq ?_
        refine W.region ?_
        refine WL.val run_move rfl rfl ?_
        refine WL.val run_move rfl rfl ?_
        refine WL.val run_move rfl rfl ?_
        refine WL.val (run_add rfl rfl (by omega) (by omega)) rfl rfl ?_
        refine WL.eff (eff_call Try.call21 (read_ok (k := at_ + (i : Nat)) (h.fetch (DiskP 106 110 b d)))) rfl rfl ?_
        rintro _ w hg
        rcases hg with ⟨he, br, rfl, h⟩ | ⟨he, rfl, h⟩
        · skip
          refine WL.val run_move rfl rfl ?_
          refine WL.val (run_extract rfl rfl) rfl rfl ?_
          refine WL.val (run_extract rfl rfl) rfl rfl ?_
          refine WL.val run_assign rfl rfl ?_
          refine WL.val run_assign rfl rfl ?_
          refine WL.nil ?_
          refine W.seq ?_
          refine W.seq ?_
          refine W.region ?_
          refine WL.val run_move rfl rfl ?_
          refine WL.val (run_neqF rfl rfl (rfl)) rfl rfl ?_
          refine WL.nil ?_
          refine W.condF rfl ?_
          refine W.skip ?_
          refine W.seq ?_
          have hst : stE d = 0 := by rw [← rdE_in hin hi2]; exact he
          refine W.region ?_
          refine WL.val run_move rfl rfl ?_
          refine WL.eff (eff_call Try.call27 (unpackN_ok (s := (readD d (at_ + (i : Nat)))) (readD_length _ _) h (Gives.ownO (v := .slice (some ⟨br, 0, none⟩) 512 512)) (by decide))) rfl rfl ?_
          rintro _ w hg
          rcases hg with ⟨hu0, au, cu, rfl, h⟩ | ⟨hu0, rfl, h⟩
          · skip
            refine WL.val run_move rfl rfl ?_
            refine WL.val (run_extract rfl rfl) rfl rfl ?_
            refine WL.val (run_extract rfl rfl) rfl rfl ?_
            refine WL.val (run_extract rfl rfl) rfl rfl ?_
            refine WL.val run_assign rfl rfl ?_
            refine WL.val run_assign rfl rfl ?_
            refine WL.val run_assign rfl rfl ?_
            refine WL.nil ?_
            refine W.seq ?_
            refine W.seq ?_
            have hun := unpack_num (readD d (at_ + (i : Nat)))
            have ob_ := openTw (h.fetch (TwinP 126 b20 b at_ (tvN (openAcc d at_ i)) (tvV (openAcc d at_ i))))
            obtain ⟨at0, ct0, hnum0, h⟩ := ob_
            refine W.region ?_
            refine WL.val run_move rfl rfl ?_
            refine WL.val (run_neqF rfl rfl (rfl)) rfl rfl ?_
            refine WL.val run_move rfl rfl ?_
            refine WL.val run_move rfl rfl ?_
            refine WL.val (run_rem rfl rfl (by omega) (by decide)) rfl rfl ?_
            refine WL.val (run_convInt64 Try.underlying40 Try.underlying3 rfl (by omega) (by omega)) rfl rfl ?_
            refine WL.val run_move rfl rfl ?_
            refine WL.dec (run_neq rfl rfl) rfl rfl (fun c48 => ?_) (fun c48 => ?_)
            · skip
              refine WL.val (run_pickF rfl) rfl rfl ?_
              refine WL.val run_move rfl rfl ?_
              refine WL.skip rfl rfl ?_
              refine WL.skip rfl rfl ?_
              refine WL.skip rfl rfl ?_
              refine WL.skip rfl rfl ?_
              refine WL.skip rfl rfl ?_
              refine WL.skip rfl rfl ?_
              refine WL.skip rfl rfl ?_
              refine WL.skip rfl rfl ?_
              refine WL.skip rfl rfl ?_
              refine WL.val (run_pickT rfl) rfl rfl ?_
              refine WL.nil ?_
              refine W.condT rfl ?_
              refine W.exit ?_
              refine W.region ?_
              refine WL.val (run_add rfl rfl (by omega) (by omega)) rfl rfl ?_
              refine WL.val run_move rfl rfl ?_
              refine WL.nil ?_
              -- round, path FLTTTT
              have hsk : openAcc d at_ (i + 1) = openAcc d at_ i := openSt_skip (.inr (.inl (by omega)))
              have hclose := closeTw (TT := 126) (bt := b20) (b := b) (at_ := at_) (a := at0) (c := ct0) (number := tvN (openAcc d at_ i)) (value := tvV (openAcc d at_ i)) (L := DiskP 106 110 b d :: L) hnum0 h.to
              exact ⟨i + 1, ⟨by omega, fun _ => hst, _, mkE_of ⟨rfl, rfl, rfl, (congrArg (fun z : TV => Value.bool z.isSome) hsk).symm, rfl, trivial⟩, by rw [hsk]; exact hclose⟩, by show 2 - (i + 1) < 2 - i; omega⟩
            · skip
              refine WL.val (run_pickF rfl) rfl rfl ?_
              refine WL.val run_move rfl rfl ?_
              refine WL.boolB run_move rfl rfl (fun c51 => ?_) (fun c51 => ?_)
              · skip
                refine WL.val run_move rfl rfl ?_
                refine WL.val run_move rfl rfl ?_
                refine WL.val run_move rfl rfl ?_
                refine WL.val (run_nilCheck rfl) rfl rfl ?_
                refine WL.val (run_fieldAddr 2 Try.underlying126 rfl Try.sizeOf40 rfl rfl) rfl rfl ?_
                refine WL.val (run_load1 Try.isAgg40 rfl (h.cellB rfl)) rfl rfl ?_
                refine WL.dec (run_lss rfl rfl) rfl rfl (fun c58 => ?_) (fun c58 => ?_)
                · skip
                  refine WL.val (run_pickT rfl) rfl rfl ?_
                  refine WL.val (run_pickF rfl) rfl rfl ?_
                  refine WL.nil ?_
                  refine W.condT rfl ?_
                  refine W.exit ?_
                  refine W.region ?_
                  refine WL.val (run_add rfl rfl (by omega) (by omega)) rfl rfl ?_
                  refine WL.val run_move rfl rfl ?_
                  refine WL.nil ?_
                  -- round, path FLTTTFTT
                  have hsk : openAcc d at_ (i + 1) = openAcc d at_ i := openSt_skip (.inr (.inr ⟨c51, by omega⟩))
                  have hclose := closeTw (TT := 126) (bt := b20) (b := b) (at_ := at_) (a := at0) (c := ct0) (number := tvN (openAcc d at_ i)) (value := tvV (openAcc d at_ i)) (L := DiskP 106 110 b d :: L) hnum0 h.to
                  exact ⟨i + 1, ⟨by omega, fun _ => hst, _, mkE_of ⟨rfl, rfl, rfl, (congrArg (fun z : TV => Value.bool z.isSome) hsk).symm, rfl, trivial⟩, by rw [hsk]; exact hclose⟩, by show 2 - (i + 1) < 2 - i; omega⟩
                · skip
                  refine WL.val (run_pickT rfl) rfl rfl ?_
                  refine WL.val (run_pickF rfl) rfl rfl ?_
                  refine WL.nil ?_
                  refine W.condF rfl ?_
                  refine W.skip ?_
                  refine W.region ?_
                  refine WL.val run_move rfl rfl ?_
                  refine WL.val run_move rfl rfl ?_
                  refine WL.val run_move rfl rfl ?_
                  refine WL.val run_move rfl rfl ?_
                  refine WL.val (run_nilCheck rfl) rfl rfl ?_
                  refine WL.val (run_fieldAddr 2 Try.underlying126 rfl Try.sizeOf40 rfl rfl) rfl rfl ?_
                  refine WL.eff (eff_store (v := .int .u64 _) h Try.sizeOf40 rfl rfl rfl rfl rfl) rfl rfl ?_
                  rintro _ w h
                  try simp only [Nat.zero_add, Nat.add_zero, List.set_cons_zero, List.set_cons_succ] at h
                  refine WL.val (run_nilCheck rfl) rfl rfl ?_
                  refine WL.val (run_fieldAddr 3 Try.underlying126 rfl Try.sizeOf22 rfl rfl) rfl rfl ?_
                  refine WL.eff (eff_store (v := .slice _ _ _) h Try.sizeOf22 rfl rfl rfl rfl rfl) rfl rfl ?_
                  rintro _ w h
                  try simp only [Nat.zero_add, Nat.add_zero, List.set_cons_zero, List.set_cons_succ] at h
                  refine WL.val run_assign rfl rfl ?_
                  refine WL.nil ?_
                  refine W.region ?_
                  refine WL.val (run_add rfl rfl (by omega) (by omega)) rfl rfl ?_
                  refine WL.val run_move rfl rfl ?_
                  refine WL.nil ?_
                  -- round, path FLTTTFTF
                  have htk : openAcc d at_ (i + 1) = some ((unpackT (readD d (at_ + (i : Nat)))).1, (unpackT (readD d (at_ + (i : Nat)))).2.1) := openSt_take hu0 (by omega) (fun _ => by omega)
                  have hclose := closeTw (TT := 126) (bt := b20) (b := b) (at_ := at_) (a := au) (c := cu) (number := (unpackT (readD d (at_ + (i : Nat)))).1) (value := (unpackT (readD d (at_ + (i : Nat)))).2.1) (L := DiskP 106 110 b d :: L) (unpack_num _) h.to
                  exact ⟨i + 1, ⟨by omega, fun _ => hst, _, mkE_of ⟨rfl, rfl, rfl, (congrArg (fun z : TV => Value.bool z.isSome) htk).symm, rfl, trivial⟩, by rw [htk]; exact hclose⟩, by show 2 - (i + 1) < 2 - i; omega⟩
              · skip
                refine WL.val run_move rfl rfl ?_
                refine WL.skip rfl rfl ?_
                refine WL.skip rfl rfl ?_
                refine WL.skip rfl rfl ?_
                refine WL.skip rfl rfl ?_
                refine WL.skip rfl rfl ?_
                refine WL.skip rfl rfl ?_
                refine WL.val (run_pickF rfl) rfl rfl ?_
                refine WL.val (run_pickF rfl) rfl rfl ?_
                refine WL.nil ?_
                refine W.condF rfl ?_
                refine W.skip ?_
                refine W.region ?_
                refine WL.val run_move rfl rfl ?_
                refine WL.val run_move rfl rfl ?_
                refine WL.val run_move rfl rfl ?_
                refine WL.val run_move rfl rfl ?_
                refine WL.val (run_nilCheck rfl) rfl rfl ?_
                refine WL.val (run_fieldAddr 2 Try.underlying126 rfl Try.sizeOf40 rfl rfl) rfl rfl ?_
                refine WL.eff (eff_store (v := .int .u64 _) h Try.sizeOf40 rfl rfl rfl rfl rfl) rfl rfl ?_
                rintro _ w h
                try simp only [Nat.zero_add, Nat.add_zero, List.set_cons_zero, List.set_cons_succ] at h
                refine WL.val (run_nilCheck rfl) rfl rfl ?_
                refine WL.val (run_fieldAddr 3 Try.underlying126 rfl Try.sizeOf22 rfl rfl) rfl rfl ?_
                refine WL.eff (eff_store (v := .slice _ _ _) h Try.sizeOf22 rfl rfl rfl rfl rfl) rfl rfl ?_
                rintro _ w h
                try simp only [Nat.zero_add, Nat.add_zero, List.set_cons_zero, List.set_cons_succ] at h
                refine WL.val run_assign rfl rfl ?_
                refine WL.nil ?_
                refine W.region ?_
                refine WL.val (run_add rfl rfl (by omega) (by omega)) rfl rfl ?_
                refine WL.val run_move rfl rfl ?_
                refine WL.nil ?_
                -- round, path FLTTTFF
                have htk : openAcc d at_ (i + 1) = some ((unpackT (readD d (at_ + (i : Nat)))).1, (unpackT (readD d (at_ + (i : Nat)))).2.1) := openSt_take hu0 (by omega) (fun hh => by rw [c51] at hh; cases hh)
                have hclose := closeTw (TT := 126) (bt := b20) (b := b) (at_ := at_) (a := au) (c := cu) (number := (unpackT (readD d (at_ + (i : Nat)))).1) (value := (unpackT (readD d (at_ + (i : Nat)))).2.1) (L := DiskP 106 110 b d :: L) (unpack_num _) h.to
                exact ⟨i + 1, ⟨by omega, fun _ => hst, _, mkE_of ⟨rfl, rfl, rfl, (congrArg (fun z : TV => Value.bool z.isSome) htk).symm, rfl, trivial⟩, by rw [htk]; exact hclose⟩, by show 2 - (i + 1) < 2 - i; omega⟩
          · skip
            refine WL.val run_move rfl rfl ?_
            refine WL.val (run_extract rfl rfl) rfl rfl ?_
            refine WL.val (run_extract rfl rfl) rfl rfl ?_
            refine WL.val (run_extract rfl rfl) rfl rfl ?_
            refine WL.val run_assign rfl rfl ?_
            refine WL.val run_assign rfl rfl ?_
            refine WL.val run_assign rfl rfl ?_
            refine WL.nil ?_
            refine W.seq ?_
            refine W.seq ?_
            refine W.region ?_
            refine WL.val run_move rfl rfl ?_
            refine WL.val (run_neqT rfl rfl (hu0)) rfl rfl ?_
            refine WL.val run_move rfl rfl ?_
            refine WL.skip rfl rfl ?_
            refine WL.skip rfl rfl ?_
            refine WL.skip rfl rfl ?_
            refine WL.skip rfl rfl ?_
            refine WL.skip rfl rfl ?_
            refine WL.val (run_pickT rfl) rfl rfl ?_
            refine WL.val run_move rfl rfl ?_
            refine WL.skip rfl rfl ?_
            refine WL.skip rfl rfl ?_
            refine WL.skip rfl rfl ?_
            refine WL.skip rfl rfl ?_
            refine WL.skip rfl rfl ?_
            refine WL.skip rfl rfl ?_
            refine WL.skip rfl rfl ?_
            refine WL.skip rfl rfl ?_
            refine WL.skip rfl rfl ?_
            refine WL.val (run_pickT rfl) rfl rfl ?_
            refine WL.nil ?_
            refine W.condT rfl ?_
            refine W.exit ?_
            refine W.region ?_
            refine WL.val (run_add rfl rfl (by omega) (by omega)) rfl rfl ?_
            refine WL.val run_move rfl rfl ?_
            refine WL.nil ?_
            -- round, path FLTTF
            have hsk : openAcc d at_ (i + 1) = openAcc d at_ i := openSt_skip (.inl hu0)
            exact ⟨i + 1, ⟨by omega, fun _ => hst, _, mkE_of ⟨rfl, rfl, rfl, (congrArg (fun z : TV => Value.bool z.isSome) hsk).symm, rfl, trivial⟩, by rw [hsk]; exact h.to⟩, by show 2 - (i + 1) < 2 - i; omega⟩
        · skip
          refine WL.val run_move rfl rfl ?_
          refine WL.val (run_extract rfl rfl) rfl rfl ?_
          refine WL.val (run_extract rfl rfl) rfl rfl ?_
          refine WL.val run_assign rfl rfl ?_
          refine WL.val run_assign rfl rfl ?_
          refine WL.nil ?_
          refine W.seq ?_
          refine W.seq ?_
          refine W.region ?_
          refine WL.val run_move rfl rfl ?_
          refine WL.val (run_neqT rfl rfl (he)) rfl rfl ?_
          refine WL.nil ?_
          refine W.condT rfl ?_
          refine W.seq ?_
          refine W.region ?_
          refine WL.val run_move rfl rfl ?_
          refine WL.val run_assign rfl rfl ?_
          refine WL.val run_assign rfl rfl ?_
          refine WL.nil ?_
          refine W.ret ?_
          refine bodyQ.r2 (v1 := .pointer _) (v2 := .int .i64 _) Try.results29 rfl rfl ?_
          -- path FLTF
          have e : openT d at_ = (none, stE d) := openT_st hin (by rw [← rdE_in hin hi2]; exact he)
          exact .inr ⟨by rw [e], by rw [e, ← rdE_in hin hi2]; exact he, by rw [e, ← rdE_in hin hi2], h.to⟩
      · skip
        refine W.exit ?_
        refine W.seq ?_
        refine W.seq ?_
        have hi2 : i = 2 := by omega
        subst hi2
        have hst := hst0 (by decide)
        refine W.region ?_
        refine WL.val run_move rfl rfl ?_
        refine WL.val (run_not rfl) rfl rfl ?_
        refine WL.nil ?_
        refine W.condB rfl (fun c33 => ?_) (fun c33 => ?_)
        · skip
          refine W.seq ?_
          refine W.region ?_
          refine WL.val run_assign rfl rfl ?_
          refine WL.val run_assign rfl rfl ?_
          refine WL.nil ?_
          refine W.ret ?_
          refine bodyQ.r2 (v1 := .pointer _) (v2 := .int .i64 _) Try.results29 rfl rfl ?_
          -- path FLFT
          have hac : openAcc d at_ 2 = none := by
            cases hac : openAcc d at_ 2 with
            | none => rfl
            | some x => rw [hac] at c33; exact absurd c33 (by simp)
          have e := openT_none hin hst hac
          exact .inr ⟨by rw [e], by rw [e]; decide, by rw [e], h.to⟩
        · skip
          refine W.skip ?_
          refine W.seq ?_
          refine W.region ?_
          refine WL.val run_move rfl rfl ?_
          refine WL.val run_assign rfl rfl ?_
          refine WL.val run_assign rfl rfl ?_
          refine WL.nil ?_
          refine W.ret ?_
          refine bodyQ.r2 (v1 := .pointer _) (v2 := .int .i64 _) Try.results29 rfl rfl ?_
          -- path FLFF
          have ob_ : ∃ x, openAcc d at_ 2 = some x := by
            cases hac : openAcc d at_ 2 with
            | none => rw [hac] at c33; exact absurd c33 (by simp)
            | some x => exact ⟨x, rfl⟩
          obtain ⟨x, hac⟩ := ob_
          have e := openT_some hin hst hac
          rw [hac] at h
          exact .inl ⟨b20, x.1, x.2, by rw [e], rfl, h⟩

theorem put_ok {bt b cx : Nat} {ax : Option Addr} {d : Dk} {at_ : Int} {number : Nat} {value nv : List UInt8} (hlow : d.lowK 2) (hat : 0 ≤ at_ ∧ at_ ≤ 10000) (hnb : number + 1 < 256 ^ 8) (h : On W0 (TwinP 126 bt b at_ number value :: DiskP 106 110 b d :: L) w) (C : Gives L (Bytes (.slice ax nv.length cx) nv)) : Calls Try.prog 72 #[.pointer (some ⟨bt, 0, none⟩), .slice ax nv.length cx] w (Ret fun v w' => v = .int .i64 (putT d at_ number nv).1 ∧ On W0 (TwinP 126 bt b at_ (if (putT d at_ number nv).1 = 0 then number + 1 else number) (if (putT d at_ number nv).1 = 0 then nv else value) :: DiskP 106 110 b (putT d at_ number nv).2 :: L) w') := by
  refine enter Try.func72 rfl Try.ntmps72 rfl ?_
  have ob_ := openTw h
  obtain ⟨a, c, hnum, h⟩ := ob_
  have hnb2 : number + 1 < 18446744073709551616 := hnb
  refine W.seq ?_
  refine W.region ?_
  refine WL.val run_assign rfl rfl ?_
  refine WL.nil ?_
  refine W.seq ?_
  refine W.region ?_
  refine WL.val run_move rfl rfl ?_
  refine WL.val (run_nilCheck rfl) rfl rfl ?_
  refine WL.val (run_fieldAddr 2 Try.underlying126 rfl Try.sizeOf40 rfl rfl) rfl rfl ?_
  refine WL.val (run_load1 Try.isAgg40 rfl (h.cellB rfl)) rfl rfl ?_
  refine WL.val (run_addK (k := .u64) (m := number) (n := 1) rfl rfl (Int.ofNat_le.2 (show _ ≤ 18446744073709551615 by omega))) rfl rfl ?_
  refine WL.val run_move rfl rfl ?_
  refine WL.eff (eff_call Try.call25 (pack_ok (number := number + 1) hnb2 h (Gives.to C))) rfl rfl ?_
  rintro _ w hg
  rcases hg with ⟨hl, aq, rfl, h⟩ | ⟨hl, rfl, h⟩
  · skip
    refine WL.val run_move rfl rfl ?_
    refine WL.val (run_extract rfl rfl) rfl rfl ?_
    refine WL.val (run_extract rfl rfl) rfl rfl ?_
    refine WL.val run_assign rfl rfl ?_
    refine WL.val run_assign rfl rfl ?_
    refine WL.nil ?_
    refine W.seq ?_
    refine W.seq ?_
    refine W.region ?_
    refine WL.val run_move rfl rfl ?_
    refine WL.val (run_neqF rfl rfl (rfl)) rfl rfl ?_
    refine WL.nil ?_
    refine W.condF rfl ?_
    refine W.skip ?_
    refine W.seq ?_
    refine W.seq ?_
    have hp : putT d at_ number nv = if (writeD d (at_ + ((number + 1 : Nat) : Int) % 2) (secT (number + 1) nv)).1 ≠ 0 then writeD d (at_ + ((number + 1 : Nat) : Int) % 2) (secT (number + 1) nv) else flushD (writeD d (at_ + ((number + 1 : Nat) : Int) % 2) (secT (number + 1) nv)).2 := by unfold putT; rw [if_neg (by omega)]
    have hl1 : ((writeD d (at_ + ((number + 1 : Nat) : Int) % 2) (secT (number + 1) nv)).2).lowK 1 := lowK_write hlow
    refine W.draw Try.follows h (fun w h => ?_)
    refine WT.pure 0 rfl (by kernel_rfl) (fun w' => run_move) rfl rfl ?_
    refine WT.pure 1 rfl (by kernel_rfl) (fun w' => (run_nilCheck rfl)) rfl rfl ?_
    refine WT.pure 2 rfl (by kernel_rfl) (fun w' => (run_fieldAddr 0 Try.underlying126 rfl Try.sizeOf26 rfl rfl)) rfl rfl ?_
    refine WT.load1 3 rfl (by kernel_rfl) Try.isAgg26 rfl (h.cellB rfl) rfl rfl ?_
    refine WT.pure 4 rfl (by kernel_rfl) (fun w' => run_move) rfl rfl ?_
    refine WT.pure 5 rfl (by kernel_rfl) (fun w' => (run_nilCheck rfl)) rfl rfl ?_
    refine WT.pure 6 rfl (by kernel_rfl) (fun w' => (run_fieldAddr 1 Try.underlying126 rfl Try.sizeOf3 rfl rfl)) rfl rfl ?_
    refine WT.load1 7 rfl (by kernel_rfl) Try.isAgg3 rfl (h.cellB rfl) rfl rfl ?_
    refine WT.pure 8 rfl (by kernel_rfl) (fun w' => run_move) rfl rfl ?_
    refine WT.pure 9 rfl (by kernel_rfl) (fun w' => (run_nilCheck rfl)) rfl rfl ?_
    refine WT.pure 10 rfl (by kernel_rfl) (fun w' => (run_fieldAddr 2 Try.underlying126 rfl Try.sizeOf40 rfl rfl)) rfl rfl ?_
    refine WT.load1 11 rfl (by kernel_rfl) Try.isAgg40 rfl (h.cellB rfl) rfl rfl ?_
    refine WT.pure 12 rfl (by kernel_rfl) (fun w' => (run_addK (k := .u64) (m := number) (n := 1) rfl rfl (Int.ofNat_le.2 (show _ ≤ 18446744073709551615 by omega)))) rfl rfl ?_
    refine WT.pure 13 rfl (by kernel_rfl) (fun w' => (run_rem rfl rfl (by omega) (by decide))) rfl rfl ?_
    refine WT.pure 14 rfl (by kernel_rfl) (fun w' => (run_convInt64 Try.underlying40 Try.underlying3 rfl (by omega) (by omega))) rfl rfl ?_
    refine WT.pure 15 rfl (by kernel_rfl) (fun w' => (run_add rfl rfl (by omega) (by omega))) rfl rfl ?_
    refine WT.pure 16 rfl (by kernel_rfl) (fun w' => run_move) rfl rfl ?_
    refine WT.eff 17 [false, false, false] rfl (by kernel_rfl) (by kernel_rfl) (eff_call Try.call17 (write_ok (k := (at_ + ((number + 1 : Nat) : Int) % 2)) (bs := (secT (number + 1) nv)) (hlow.low (by decide)) (h.fetch (DiskP 106 110 b d)) (Gives.ownO (v := .slice aq (secT (number + 1) nv).length (secT (number + 1) nv).length)))) rfl rfl ?_
    rintro _ w ⟨rfl, h⟩
    refine ⟨trivial, ?_⟩
    refine WT.pure 18 rfl (by kernel_rfl) (fun w' => run_assign) rfl rfl ?_
    refine WT.done (by kernel_rfl) ?_
    refine W.seq ?_
    refine W.region ?_
    refine WL.val run_move rfl rfl ?_
    refine WL.val (run_neq rfl rfl) rfl rfl ?_
    refine WL.nil ?_
    refine W.condIf rfl (fun c9 => ?_) (fun c9 => ?_)
    · skip
      refine W.seq ?_
      refine W.region ?_
      refine WL.val run_move rfl rfl ?_
      refine WL.val run_assign rfl rfl ?_
      refine WL.nil ?_
      refine W.ret ?_
      refine bodyQ.r1 (v := .int .i64 _) Try.results72 rfl ?_
      -- path TT
      have e : putT d at_ number nv = writeD d (at_ + ((number + 1 : Nat) : Int) % 2) (secT (number + 1) nv) := by rw [hp, if_pos c9]
      have hne : (putT d at_ number nv).1 ≠ 0 := by rw [e]; first | assumption | (show (5 : Int) ≠ 0; decide)
      refine ⟨by rw [e], ?_⟩
      rw [if_neg hne, if_neg hne, e]
      exact closeTw (TT := 126) (bt := bt) (b := b) (at_ := at_) (a := a) (c := c) (number := number) (value := value) (L := DiskP 106 110 b (writeD d (at_ + ((number + 1 : Nat) : Int) % 2) (secT (number + 1) nv)).2 :: L) hnum h.to
    · skip
      refine W.skip ?_
      refine W.seq ?_
      refine W.seq ?_
      refine W.region ?_
      refine WL.val run_move rfl rfl ?_
      refine WL.val (run_nilCheck rfl) rfl rfl ?_
      refine WL.val (run_fieldAddr 0 Try.underlying126 rfl Try.sizeOf26 rfl rfl) rfl rfl ?_
      refine WL.val (run_load1 Try.isAgg26 rfl (h.cellB rfl)) rfl rfl ?_
      refine WL.eff (eff_call Try.call18 (flush_ok (hl1.low (by decide)) (h.fetch (DiskP 106 110 b (writeD d (at_ + ((number + 1 : Nat) : Int) % 2) (secT (number + 1) nv)).2)))) rfl rfl ?_
      rintro _ w ⟨rfl, h⟩
      refine WL.val run_assign rfl rfl ?_
      refine WL.nil ?_
      refine W.seq ?_
      refine W.region ?_
      refine WL.val run_move rfl rfl ?_
      refine WL.val (run_neq rfl rfl) rfl rfl ?_
      refine WL.nil ?_
      refine W.condIf rfl (fun c15 => ?_) (fun c15 => ?_)
      · skip
        refine W.seq ?_
        refine W.region ?_
        refine WL.val run_move rfl rfl ?_
        refine WL.val run_assign rfl rfl ?_
        refine WL.nil ?_
        refine W.ret ?_
        refine bodyQ.r1 (v := .int .i64 _) Try.results72 rfl ?_
        -- path TFT
        have e : putT d at_ number nv = flushD (writeD d (at_ + ((number + 1 : Nat) : Int) % 2) (secT (number + 1) nv)).2 := by rw [hp, if_neg c9]
        have hne : (putT d at_ number nv).1 ≠ 0 := by rw [e]; first | assumption | (show (5 : Int) ≠ 0; decide)
        refine ⟨by rw [e], ?_⟩
        rw [if_neg hne, if_neg hne, e]
        exact closeTw (TT := 126) (bt := bt) (b := b) (at_ := at_) (a := a) (c := c) (number := number) (value := value) (L := DiskP 106 110 b (flushD (writeD d (at_ + ((number + 1 : Nat) : Int) % 2) (secT (number + 1) nv)).2).2 :: L) hnum h.to
      · skip
        refine W.skip ?_
        refine W.seq ?_
        have hmx := maxLen_eq
        have hnl : nv.length ≤ 488 := hl
        refine W.draw Try.follows h (fun w h => ?_)
        refine WT.pure 0 rfl (by kernel_rfl) (fun w' => run_move) rfl rfl ?_
        refine WT.pure 1 rfl (by kernel_rfl) (fun w' => run_move) rfl rfl ?_
        refine WT.pure 2 rfl (by kernel_rfl) (fun w' => run_move) rfl rfl ?_
        refine WT.pure 3 rfl (by kernel_rfl) (fun w' => (run_nilCheck rfl)) rfl rfl ?_
        refine WT.pure 4 rfl (by kernel_rfl) (fun w' => (run_fieldAddr 2 Try.underlying126 rfl Try.sizeOf40 rfl rfl)) rfl rfl ?_
        refine WT.load1 5 rfl (by kernel_rfl) Try.isAgg40 rfl (h.cellB rfl) rfl rfl ?_
        refine WT.pure 6 rfl (by kernel_rfl) (fun w' => (run_addK (k := .u64) (m := number) (n := 1) rfl rfl (Int.ofNat_le.2 (show _ ≤ 18446744073709551615 by omega)))) rfl rfl ?_
        refine WT.pure 7 rfl (by kernel_rfl) (fun w' => run_move) rfl rfl ?_
        refine WT.eff 8 [true] rfl (by kernel_rfl) (by kernel_rfl) (eff_call Try.call68 (clone_bytes h (Gives.to C) (by omega))) rfl rfl ?_
        rintro _ w ⟨a59, c59, rfl, h⟩
        refine ⟨⟨h.cellB rfl, trivial⟩, ?_⟩
        refine WT.pure 9 rfl (by kernel_rfl) (fun w' => (run_nilCheck rfl)) rfl rfl ?_
        refine WT.pure 10 rfl (by kernel_rfl) (fun w' => (run_fieldAddr 2 Try.underlying126 rfl Try.sizeOf40 rfl rfl)) rfl rfl ?_
        refine WT.eff 11 [false] rfl (by kernel_rfl) (by kernel_rfl) (eff_store (v := .int .u64 _) h Try.sizeOf40 rfl rfl rfl rfl rfl) rfl rfl ?_
        rintro _ w h
        try simp only [Nat.zero_add, Nat.add_zero, List.set_cons_zero, List.set_cons_succ] at h
        refine ⟨trivial, ?_⟩
        refine WT.pure 12 rfl (by kernel_rfl) (fun w' => (run_nilCheck rfl)) rfl rfl ?_
        refine WT.pure 13 rfl (by kernel_rfl) (fun w' => (run_fieldAddr 3 Try.underlying126 rfl Try.sizeOf22 rfl rfl)) rfl rfl ?_
        refine WT.eff 14 [] rfl (by kernel_rfl) (by kernel_rfl) (eff_store (v := .slice _ _ _) h Try.sizeOf22 rfl rfl rfl rfl rfl) rfl rfl ?_
        rintro _ w h
        try simp only [Nat.zero_add, Nat.add_zero, List.set_cons_zero, List.set_cons_succ] at h
        refine ⟨trivial, ?_⟩
        refine WT.done (by kernel_rfl) ?_
        refine W.seq ?_
        refine W.region ?_
        refine WL.val run_assign rfl rfl ?_
        refine WL.nil ?_
        refine W.ret ?_
        refine bodyQ.r1 (v := .int .i64 _) Try.results72 rfl ?_
        -- path TFF
        have e : putT d at_ number nv = flushD (writeD d (at_ + ((number + 1 : Nat) : Int) % 2) (secT (number + 1) nv)).2 := by rw [hp, if_neg c9]
        have h0 : (putT d at_ number nv).1 = 0 := by rw [e]; exact Decidable.not_not.1 c15
        refine ⟨by rw [h0], ?_⟩
        rw [if_pos h0, if_pos h0, e]
        exact closeTw (TT := 126) (bt := bt) (b := b) (at_ := at_) (a := a59) (c := c59) (number := number + 1) (value := nv) (L := DiskP 106 110 b (flushD (writeD d (at_ + ((number + 1 : Nat) : Int) % 2) (secT (number + 1) nv)).2).2 :: L) hnb h.to
  · skip
    refine WL.val run_move rfl rfl ?_
    refine WL.val (run_extract rfl rfl) rfl rfl ?_
    refine WL.val (run_extract rfl rfl) rfl rfl ?_
    refine WL.val run_assign rfl rfl ?_
    refine WL.val run_assign rfl rfl ?_
    refine WL.nil ?_
    refine W.seq ?_
    refine W.seq ?_
    refine W.region ?_
    refine WL.val run_move rfl rfl ?_
    refine WL.val (run_neqT rfl rfl (by decide)) rfl rfl ?_
    refine WL.nil ?_
    refine W.condT rfl ?_
    refine W.seq ?_
    refine W.region ?_
    refine WL.val run_move rfl rfl ?_
    refine WL.val run_assign rfl rfl ?_
    refine WL.nil ?_
    refine W.ret ?_
    refine bodyQ.r1 (v := .int .i64 _) Try.results72 rfl ?_
    -- path F
    have e : putT d at_ number nv = (5, d) := by unfold putT; rw [if_pos hl]
    have hne : (putT d at_ number nv).1 ≠ 0 := by rw [e]; first | assumption | (show (5 : Int) ≠ 0; decide)
    refine ⟨by rw [e], ?_⟩
    rw [if_neg hne, if_neg hne, e]
    exact closeTw (TT := 126) (bt := bt) (b := b) (at_ := at_) (a := a) (c := c) (number := number) (value := value) (L := DiskP 106 110 b d :: L) hnum h.to

end Go.Proofs.Ytlahgihjjabgmaa
