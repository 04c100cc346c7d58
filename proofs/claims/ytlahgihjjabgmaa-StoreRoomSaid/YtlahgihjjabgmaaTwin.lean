/-
  Values on two sectors: the contracts. Lines of walks printed by a program of the prover's.
-/
import Derived.Test.YtlahgihjjabgmaaBin2
import Derived.Test.YtlahgihjjabgmaaDisk4
import Derived.Test.YtlahgihjjabgmaaTwinM
namespace Go.Proofs.Ytlahgihjjabgmaa
open Go Go.Sl Go.Sl.ByM Go.Sl.DkM Go.Sl.TwM
set_option linter.unusedVariables false
set_option linter.unusedSimpArgs false
set_option maxHeartbeats 1000000
set_option maxRecDepth 8000
variable {W0 w : World} {L F : List HProp}

theorem pack_ok {ax : Option Addr} {cx : Nat} {value : List UInt8} {number : Nat} (hn : number < 18446744073709551616) (h : On W0 L w) (C : Gives L (Bytes (.slice ax value.length cx) value)) : Calls Try.prog 25 #[.int .u64 (number : Int), .slice ax value.length cx] w (Ret fun v w' => (value.length ≤ 488 ∧ ∃ a, v = .tuple #[.slice a (secT number value).length (secT number value).length, .int .i64 0] ∧ On W0 (OwnB (.slice a (secT number value).length (secT number value).length) (secT number value) :: L) w') ∨ (488 < value.length ∧ v = .tuple #[.slice none 0 0, .int .i64 5] ∧ On W0 L w')) := by
  refine enter Try.func25 rfl Try.ntmps25 rfl ?_
  have hmx := maxLen_eq
  refine W.seq ?_
  refine W.region ?_
  refine WL.val run_assign rfl rfl ?_
  refine WL.val run_assign rfl rfl ?_
  refine WL.nil ?_
  refine W.seq ?_
  refine W.seq ?_
  refine W.region ?_
  refine WL.val run_move rfl rfl ?_
  refine WL.val (run_lenSlice Try.underlying22 rfl) rfl rfl ?_
  refine WL.val (run_gtr rfl rfl) rfl rfl ?_
  refine WL.nil ?_
  refine W.condIf rfl (fun c2 => ?_) (fun c2 => ?_)
  · skip
    refine W.seq ?_
    refine W.region ?_
    refine WL.val run_assign rfl rfl ?_
    refine WL.val run_assign rfl rfl ?_
    refine WL.nil ?_
    refine W.ret ?_
    refine bodyQ.r2 (v1 := .slice _ _ _) (v2 := .int .i64 _) Try.results25 rfl rfl ?_
    -- path T
    exact .inr ⟨by omega, rfl, h⟩
  · skip
    refine W.skip ?_
    refine W.seq ?_
    refine W.region ?_
    refine WL.eff (eff_mkRow (out := [.int .u8 _, .int .u8 _, .int .u8 _, .int .u8 _]) h Try.underlying22 Try.sizeOf5 Try.zeroValue5 rfl (by decide) rfl rfl rfl) rfl rfl ?_
    rintro _ w ⟨b10, rfl, h⟩
    refine WL.eff (eff_ofString h rfl (by omega) Try.underlying22 Try.underlying5) rfl rfl ?_
    rintro _ w ⟨rfl, h⟩
    refine WL.val run_move rfl rfl ?_
    refine WL.eff (eff_call Try.call73 (bput_ok (v := number) (n := 8) (bs := markT) h (Gives.ownO (v := .slice (some ⟨b10, 0, none⟩) 4 4)) (by decide) (by decide) hn (by decide))) rfl rfl ?_
    rintro _ w ⟨a13, rfl, h⟩
    have l13 : (markT ++ be number 8).length = 12 := by rw [List.length_append, be_length]; rfl
    refine WL.val run_move rfl rfl ?_
    refine WL.val (run_lenSlice Try.underlying22 rfl) rfl rfl ?_
    refine WL.val (run_convIn Try.underlying3 Try.underlying40 rfl (by show (0 : Int) ≤ _; omega) (by show _ ≤ (18446744073709551615 : Int); omega)) rfl rfl ?_
    refine WL.eff (eff_call Try.call73 (bput_ok (v := value.length) (n := 2) (bs := (markT ++ be number 8)) h (Gives.ownO (v := .slice a13 (markT ++ be number 8).length (markT ++ be number 8).length)) (by decide) (by decide) (by omega) (by omega))) rfl rfl ?_
    rintro _ w ⟨a17, rfl, h⟩
    have l17 : ((markT ++ be number 8) ++ be value.length 2).length = 14 := by rw [List.length_append, be_length, l13]
    refine WL.val run_assign rfl rfl ?_
    refine WL.nil ?_
    refine W.seq ?_
    refine W.region ?_
    refine WL.val run_move rfl rfl ?_
    refine WL.val run_move rfl rfl ?_
    refine WL.eff (eff_app (bytes := 1) h rfl rfl (h.readsTo C) Try.underlying22 rfl rfl rfl rfl rfl (by omega) (by omega) bytes_one) rfl rfl ?_
    rintro _ w ⟨a20, c20, hv, h⟩
    have e20 : ((markT ++ be number 8) ++ be value.length 2).length + value.length = (bodyT number value).length := by rw [bodyT_length, l17]
    rw [e20] at hv h
    subst hv
    have e2 : bytesV ((markT ++ be number 8) ++ be value.length 2) ++ bytesV value = bytesV (bodyT number value) := by unfold bodyT bytesV; rw [← List.map_append]
    rw [e2] at h
    have lb := bodyT_length number value
    refine WL.eff (eff_call Try.call75 (pad_ok (to := 508) (bs := bodyT number value) h (Gives.ownO (v := .slice a20 (bodyT number value).length c20)) (by omega) (by omega) (by decide))) rfl rfl ?_
    rintro _ w ⟨a21, rfl, h⟩
    have lp : (padB (bodyT number value) 508).length = 508 := padB_length (by omega)
    refine WL.eff (eff_call Try.call74 (seal_ok (bs := padB (bodyT number value) 508) h (Gives.ownO (v := .slice a21 (padB (bodyT number value) 508).length (padB (bodyT number value) 508).length)) (by rw [lp]; decide))) rfl rfl ?_
    rintro _ w ⟨a22, rfl, h⟩
    refine WL.val run_assign rfl rfl ?_
    refine WL.val run_assign rfl rfl ?_
    refine WL.nil ?_
    refine W.ret ?_
    refine bodyQ.r2 (v1 := .slice _ _ _) (v2 := .int .i64 _) Try.results25 rfl rfl ?_
    -- path F
    have h2 : On W0 (OwnB (.slice a22 (sealB (padB (bodyT number value) 508)).length (sealB (padB (bodyT number value) 508)).length) (sealB (padB (bodyT number value) 508)) :: L) w := h.to
    exact .inl ⟨by omega, a22, rfl, h2⟩

theorem unpack_ok {ax : Option Addr} {cx : Nat} {s : List UInt8} (h : On W0 L w) (C : Gives L (Bytes (.slice ax s.length cx) s)) (hsl : s.length ≤ 1000000) : Calls Try.prog 27 #[.slice ax s.length cx] w (Ret fun v w' => ((unpackT s).2.2 = 0 ∧ ∃ a c, v = .tuple #[.int .u64 ((unpackT s).1 : Int), .slice a (unpackT s).2.1.length c, .int .i64 0] ∧ On W0 (OwnB (.slice a (unpackT s).2.1.length c) (unpackT s).2.1 :: L) w') ∨ ((unpackT s).2.2 ≠ 0 ∧ v = .tuple #[.int .u64 0, .slice none 0 0, .int .i64 (unpackT s).2.2] ∧ On W0 L w')) := by
  refine enter Try.func27 rfl Try.ntmps27 rfl ?_
  have hmx := maxLen_eq
  refine W.seq ?_
  refine W.region ?_
  refine WL.val run_assign rfl rfl ?_
  refine WL.val run_assign rfl rfl ?_
  refine WL.val run_assign rfl rfl ?_
  refine WL.nil ?_
  refine W.seq ?_
  refine W.seq ?_
  refine W.region ?_
  refine WL.val run_move rfl rfl ?_
  refine WL.val (run_lenSlice Try.underlying22 rfl) rfl rfl ?_
  refine WL.dec (run_neq rfl rfl) rfl rfl (fun c12 => ?_) (fun c12 => ?_)
  · skip
    refine WL.nil ?_
    refine W.condT rfl ?_
    refine W.seq ?_
    refine W.region ?_
    refine WL.val run_assign rfl rfl ?_
    refine WL.val run_assign rfl rfl ?_
    refine WL.val run_assign rfl rfl ?_
    refine WL.nil ?_
    refine W.ret ?_
    refine bodyQ.r3 (v1 := .int .u64 _) (v2 := .slice _ _ _) (v3 := .int .i64 _) Try.results27 rfl rfl rfl ?_
    -- path T
    have e : unpackT s = (0, [], 3) := by unfold unpackT; rw [if_pos (by omega)]
    exact .inr ⟨by rw [e]; show (3 : Int) ≠ 0; decide, by rw [e], h⟩
  · skip
    refine WL.nil ?_
    refine W.condF rfl ?_
    refine W.skip ?_
    refine W.seq ?_
    have hs : s.length = 512 := by omega
    have eB : s.take (s.length - 4) = s.take 508 := by rw [hs]
    have ob_ : ∃ B, B = s.take 508 := ⟨_, rfl⟩
    obtain ⟨B, hB⟩ := ob_
    have hBl : B.length = 508 := by rw [hB, List.length_take]; omega
    refine W.region ?_
    refine WL.val run_move rfl rfl ?_
    refine WL.eff (eff_call Try.call79 (open_ok h C (by omega))) rfl rfl ?_
    rintro _ w hg
    rcases hg with ⟨ho, _, a15, hv, h⟩ | ⟨ho, hv, h⟩
    · skip
      rw [eB, ← hB] at hv h
      subst hv
      have hu : unpackT s = if 488 < lenT B then (0, [], 2) else if (packT (numT B) (valT B)).1 ≠ s then (0, [], 2) else (numT B, valT B, 0) := by
        unfold unpackT
        rw [if_neg (by omega), if_neg (by rw [ho]; decide), ← hB]
      refine WL.val run_move rfl rfl ?_
      refine WL.val (run_extract rfl rfl) rfl rfl ?_
      refine WL.val (run_extract rfl rfl) rfl rfl ?_
      refine WL.val run_assign rfl rfl ?_
      refine WL.val run_assign rfl rfl ?_
      refine WL.nil ?_
      refine W.seq ?_
      refine W.seq ?_
      refine W.region ?_
      refine WL.val run_move rfl rfl ?_
      refine WL.val (run_neqF rfl rfl (rfl)) rfl rfl ?_
      refine WL.nil ?_
      refine W.condF rfl ?_
      refine W.skip ?_
      refine W.seq ?_
      refine W.region ?_
      refine WL.val run_move rfl rfl ?_
      refine WL.eff (eff_call Try.call80 (bget_ok (at_ := 4) (n := 8) (bs := B) h (Gives.ownO (v := .slice a15 B.length B.length)))) rfl rfl ?_
      rintro _ w hg
      rcases hg with ⟨_, hv, h⟩ | ⟨hno, _, _⟩
      rotate_left
      · exact absurd (show _ by omega) hno
      have hv : _ = Value.tuple #[.int .u64 (numT B : Int), .bool true] := hv
      subst hv
      refine WL.val run_move rfl rfl ?_
      refine WL.val (run_extract rfl rfl) rfl rfl ?_
      refine WL.val (run_extract rfl rfl) rfl rfl ?_
      refine WL.val run_assign rfl rfl ?_
      refine WL.nil ?_
      refine W.seq ?_
      refine W.region ?_
      refine WL.val run_move rfl rfl ?_
      refine WL.eff (eff_call Try.call80 (bget_ok (at_ := 12) (n := 2) (bs := B) h (Gives.ownO (v := .slice a15 B.length B.length)))) rfl rfl ?_
      rintro _ w hg
      rcases hg with ⟨_, hv, h⟩ | ⟨hno, _, _⟩
      rotate_left
      · exact absurd (show _ by omega) hno
      have hv : _ = Value.tuple #[.int .u64 (lenT B : Int), .bool true] := hv
      subst hv
      refine WL.val run_move rfl rfl ?_
      refine WL.val (run_extract rfl rfl) rfl rfl ?_
      refine WL.val (run_extract rfl rfl) rfl rfl ?_
      refine WL.val run_assign rfl rfl ?_
      refine WL.val run_assign rfl rfl ?_
      refine WL.nil ?_
      refine W.seq ?_
      refine W.seq ?_
      refine W.region ?_
      refine WL.val run_move rfl rfl ?_
      refine WL.val (run_gtr rfl rfl) rfl rfl ?_
      refine WL.nil ?_
      refine W.condIf rfl (fun c15 => ?_) (fun c15 => ?_)
      · skip
        refine W.seq ?_
        refine W.region ?_
        refine WL.val run_assign rfl rfl ?_
        refine WL.val run_assign rfl rfl ?_
        refine WL.val run_assign rfl rfl ?_
        refine WL.nil ?_
        refine W.ret ?_
        refine bodyQ.r3 (v1 := .int .u64 _) (v2 := .slice _ _ _) (v3 := .int .i64 _) Try.results27 rfl rfl rfl ?_
        -- path FTT
        rw [if_pos (by omega)] at hu
        exact .inr ⟨by rw [hu]; show (2 : Int) ≠ 0; decide, by rw [hu], h.to⟩
      · skip
        refine W.skip ?_
        refine W.seq ?_
        have hle : lenT B ≤ 488 := by omega
        rw [if_neg (by omega)] at hu
        have hcut := cut_bytes (L := [OwnB (.slice a15 B.length B.length) B]) (l := 14) (h := 14 + lenT B) (bs := B) Gives.own (Nat.le_refl _) (by omega) (by omega)
        have epq : 14 + lenT B - 14 = lenT B := by omega
        have evl : (B.drop 14).take (lenT B) = valT B := rfl
        rw [epq, evl] at hcut
        obtain ⟨a', c', hcut, gV⟩ := hcut
        have hvl : (valT B).length = lenT B := by unfold valT; rw [List.length_take, List.length_drop]; omega
        have hnum : numT B < 18446744073709551616 := Nat.lt_of_lt_of_le (beV_lt _) (Nat.pow_le_pow_right (by decide) (show ((B.drop 4).take 8).length ≤ 8 by rw [List.length_take]; omega))
        refine W.region ?_
        refine WL.val run_move rfl rfl ?_
        refine WL.val run_move rfl rfl ?_
        refine WL.val (run_convInt64 Try.underlying40 Try.underlying3 rfl (by omega) (by omega)) rfl rfl ?_
        refine WL.val (run_addN (m := 14) (n := lenT B) rfl rfl (by omega)) rfl rfl ?_
        refine WL.val (run_cutLHV (l := 14) (h := 14 + lenT B) Try.underlying22 Try.sizeOf5 rfl rfl rfl (by omega) (by omega) hcut) rfl rfl ?_
        refine WL.eff (eff_call Try.call68 (clone_bytes h (Gives.to gV) (by omega))) rfl rfl ?_
        rintro _ w ⟨a38, c38, rfl, h⟩
        refine WL.eff (eff_call Try.call81 (clip_bytes h)) rfl rfl ?_
        rintro _ w ⟨rfl, h⟩
        refine WL.val run_assign rfl rfl ?_
        refine WL.nil ?_
        refine W.seq ?_
        refine W.seq ?_
        refine W.region ?_
        refine WL.val run_move rfl rfl ?_
        refine WL.val run_move rfl rfl ?_
        refine WL.eff (eff_call Try.call25 (pack_ok (number := numT B) (value := valT B) hnum h (Gives.ownO (v := .slice a38 (valT B).length (valT B).length)))) rfl rfl ?_
        rintro _ w hg
        rcases hg with ⟨_, a43, rfl, h⟩ | ⟨hno, _, _⟩
        rotate_left
        · omega
        have hp : packT (numT B) (valT B) = (secT (numT B) (valT B), 0) := by unfold packT; rw [if_neg (by omega)]
        rw [hp] at hu
        refine WL.val run_move rfl rfl ?_
        refine WL.val (run_extract rfl rfl) rfl rfl ?_
        refine WL.val (run_extract rfl rfl) rfl rfl ?_
        refine WL.val run_assign rfl rfl ?_
        refine WL.val run_assign rfl rfl ?_
        refine WL.nil ?_
        refine W.seq ?_
        refine W.region ?_
        refine WL.val run_move rfl rfl ?_
        refine WL.val run_move rfl rfl ?_
        refine WL.eff (eff_call Try.call82 (bequal_ok (bs := secT (numT B) (valT B)) (cs := s) h (Gives.ownO (v := .slice a43 (secT (numT B) (valT B)).length (secT (numT B) (valT B)).length)) (Gives.to C))) rfl rfl ?_
        rintro _ w ⟨rfl, h⟩
        refine WL.val (run_notDec rfl) rfl rfl ?_
        refine WL.nil ?_
        refine W.condIf rfl (fun c22 => ?_) (fun c22 => ?_)
        · skip
          refine W.seq ?_
          refine W.region ?_
          refine WL.val run_assign rfl rfl ?_
          refine WL.val run_assign rfl rfl ?_
          refine WL.val run_assign rfl rfl ?_
          refine WL.nil ?_
          refine W.ret ?_
          refine bodyQ.r3 (v1 := .int .u64 _) (v2 := .slice _ _ _) (v3 := .int .i64 _) Try.results27 rfl rfl rfl ?_
          -- path FTFT
          rw [if_pos c22] at hu
          exact .inr ⟨by rw [hu]; show (2 : Int) ≠ 0; decide, by rw [hu], h.to⟩
        · skip
          refine W.skip ?_
          refine W.seq ?_
          refine W.region ?_
          refine WL.val run_move rfl rfl ?_
          refine WL.val run_move rfl rfl ?_
          refine WL.val run_assign rfl rfl ?_
          refine WL.val run_assign rfl rfl ?_
          refine WL.val run_assign rfl rfl ?_
          refine WL.nil ?_
          refine W.ret ?_
          refine bodyQ.r3 (v1 := .int .u64 _) (v2 := .slice _ _ _) (v3 := .int .i64 _) Try.results27 rfl rfl rfl ?_
          -- path FTFF
          rw [if_neg c22] at hu
          refine .inl ⟨by rw [hu], a38, (valT B).length, by rw [hu], ?_⟩
          rw [hu]
          exact h.to
    · skip
      subst hv
      refine WL.val run_move rfl rfl ?_
      refine WL.val (run_extract rfl rfl) rfl rfl ?_
      refine WL.val (run_extract rfl rfl) rfl rfl ?_
      refine WL.val run_assign rfl rfl ?_
      refine WL.val run_assign rfl rfl ?_
      refine WL.nil ?_
      refine W.seq ?_
      refine W.seq ?_
      refine W.region ?_
      refine WL.val run_move rfl rfl ?_
      refine WL.val (run_neqT rfl rfl (ho)) rfl rfl ?_
      refine WL.nil ?_
      refine W.condT rfl ?_
      refine W.seq ?_
      refine W.region ?_
      refine WL.val run_move rfl rfl ?_
      refine WL.val run_assign rfl rfl ?_
      refine WL.val run_assign rfl rfl ?_
      refine WL.val run_assign rfl rfl ?_
      refine WL.nil ?_
      refine W.ret ?_
      refine bodyQ.r3 (v1 := .int .u64 _) (v2 := .slice _ _ _) (v3 := .int .i64 _) Try.results27 rfl rfl rfl ?_
      -- path FF
      have hu : unpackT s = (0, [], (openB s).2) := by unfold unpackT; rw [if_neg (by omega), if_pos ho]
      exact .inr ⟨by rw [hu]; exact ho, by rw [hu], h⟩

end Go.Proofs.Ytlahgihjjabgmaa
