/-
  A value on two sectors: plain. No program is named here.
-/
import Derived.Test.YtlahgihjjabgmaaByteM
import Derived.Test.YtlahgihjjabgmaaDiskCrash
namespace Go.Sl.TwM
open Go Go.Sl Go.Sl.ByM Go.Sl.DkM
set_option linter.unusedVariables false
/-! ### Sealed sectors -/
theorem padB_length {bs : List UInt8} {n : Nat} (h : bs.length ≤ n) : (padB bs n).length = n := by
  unfold padB
  rw [List.length_append, List.length_replicate]
  omega
theorem seal_length (bs : List UInt8) : (sealB bs).length = bs.length + 4 := by unfold sealB; rw [List.length_append]; rfl
theorem open_seal (bs : List UInt8) : openB (sealB bs) = (bs, 0) := by
  have hl := seal_length bs
  have e1 : (sealB bs).take ((sealB bs).length - 4) = bs := by
    rw [hl, Nat.add_sub_cancel]
    unfold sealB
    exact List.take_left
  have e2 : (sealB bs).drop ((sealB bs).length - 4) = four (crcS bs) := by
    rw [hl, Nat.add_sub_cancel]
    unfold sealB
    exact List.drop_left
  unfold openB
  rw [if_neg (by omega), e1, e2, if_neg (by simp)]
theorem open_ok_iff {s : List UInt8} (h : (openB s).2 = 0) : 4 ≤ s.length ∧ s = sealB (s.take (s.length - 4)) := by
  unfold openB at h
  split at h
  · cases h
  · split at h
    · cases h
    · rename_i h1 h2
      refine ⟨by omega, ?_⟩
      have h2 := Decidable.not_not.1 h2
      unfold sealB
      rw [h2, List.take_append_drop]
/-! ### A sector -/
def markT : List UInt8 := [84, 87, 73, 78]
def bodyT (number : Nat) (value : List UInt8) : List UInt8 := markT ++ be number 8 ++ be value.length 2 ++ value
def secT (number : Nat) (value : List UInt8) : List UInt8 := sealB (padB (bodyT number value) 508)
def packT (number : Nat) (value : List UInt8) : List UInt8 × Int := if 488 < value.length then ([], 5) else (secT number value, 0)
theorem bodyT_length (number : Nat) (value : List UInt8) : (bodyT number value).length = 14 + value.length := by
  unfold bodyT
  simp only [List.length_append, be_length]
  rfl
theorem secT_length {number : Nat} {value : List UInt8} (h : value.length ≤ 488) : (secT number value).length = 512 := by
  unfold secT
  rw [seal_length, padB_length (by rw [bodyT_length]; omega)]
def numT (s : List UInt8) : Nat := beV ((s.drop 4).take 8)
def lenT (s : List UInt8) : Nat := beV ((s.drop 12).take 2)
def valT (s : List UInt8) : List UInt8 := (s.drop 14).take (lenT s)
def unpackT (s : List UInt8) : Nat × List UInt8 × Int :=
  if s.length ≠ 512 then (0, [], 3) else if (openB s).2 ≠ 0 then (0, [], (openB s).2) else
  if 488 < lenT (s.take 508) then (0, [], 2) else if (packT (numT (s.take 508)) (valT (s.take 508))).1 ≠ s then (0, [], 2) else (numT (s.take 508), valT (s.take 508), 0)
theorem pad_num {number : Nat} {value : List UInt8} (h : number < 256 ^ 8) : numT (padB (bodyT number value) 508) = number := by
  unfold numT padB bodyT
  have e : ((markT ++ be number 8 ++ be value.length 2 ++ value ++ List.replicate (508 - (markT ++ be number 8 ++ be value.length 2 ++ value).length) 0).drop 4).take 8 = be number 8 := by
    rw [List.append_assoc, List.append_assoc, List.append_assoc, show (4 : Nat) = markT.length from rfl, List.drop_left, show (8 : Nat) = (be number 8).length by rw [be_length]]
    conv => lhs; rw [be_length]
    conv => lhs; rw [show (8 : Nat) = (be number 8).length by rw [be_length]]
    rw [be_length]
    have := List.take_left (l₁ := be number 8) (l₂ := be value.length 2 ++ (value ++ List.replicate (508 - (markT ++ (be number 8 ++ (be value.length 2 ++ value))).length) 0))
    rw [be_length] at this
    exact this
  rw [e, beV_be h]
theorem take_mid {a b c : List UInt8} {n m : Nat} (hn : a.length = n) (hm : b.length = m) : ((a ++ (b ++ c)).drop n).take m = b := by
  subst hn; subst hm
  rw [List.drop_left, List.take_left]
theorem pad_len {number : Nat} {value : List UInt8} (h : value.length ≤ 488) : lenT (padB (bodyT number value) 508) = value.length := by
  unfold lenT padB bodyT
  have e : markT ++ be number 8 ++ be value.length 2 ++ value ++ List.replicate (508 - (markT ++ be number 8 ++ be value.length 2 ++ value).length) 0 = (markT ++ be number 8) ++ (be value.length 2 ++ (value ++ List.replicate (508 - (markT ++ be number 8 ++ be value.length 2 ++ value).length) 0)) := by simp
  rw [e, take_mid (by rw [List.length_append, be_length]; rfl) (be_length _ _), beV_be (by omega)]
theorem pad_val {number : Nat} {value : List UInt8} (h : value.length ≤ 488) : valT (padB (bodyT number value) 508) = value := by
  unfold valT
  rw [pad_len h]
  unfold padB bodyT
  have e : markT ++ be number 8 ++ be value.length 2 ++ value ++ List.replicate (508 - (markT ++ be number 8 ++ be value.length 2 ++ value).length) 0 = (markT ++ be number 8 ++ be value.length 2) ++ (value ++ List.replicate (508 - (markT ++ be number 8 ++ be value.length 2 ++ value).length) 0) := by simp
  rw [e, take_mid (by rw [List.length_append, List.length_append, be_length, be_length]; rfl) rfl]
theorem unpack_sec {number : Nat} {value : List UInt8} (hn : number < 256 ^ 8) (hv : value.length ≤ 488) : unpackT (secT number value) = (number, value, 0) := by
  have hl := secT_length (number := number) hv
  have hp : (padB (bodyT number value) 508).length = 508 := padB_length (by rw [bodyT_length]; omega)
  have e1 : (secT number value).take 508 = padB (bodyT number value) 508 := by
    unfold secT sealB
    conv => lhs; rw [← hp]
    rw [hp]
    have := List.take_left (l₁ := padB (bodyT number value) 508) (l₂ := four (crcS (padB (bodyT number value) 508)))
    rw [hp] at this
    exact this
  unfold unpackT
  rw [if_neg (by rw [hl]; decide), e1, pad_num hn, pad_len hv, pad_val hv]
  have e2 : openB (secT number value) = (padB (bodyT number value) 508, 0) := open_seal _
  rw [e2]
  rw [if_neg (by show ¬ ((0 : Int) ≠ 0); decide), if_neg (by omega)]
  have e3 : packT number value = (secT number value, 0) := by unfold packT; rw [if_neg (by omega)]
  rw [e3, if_neg (by simp)]
theorem unpack_num (s : List UInt8) : (unpackT s).1 < 256 ^ 8 := by
  have key : ∀ l : List UInt8, beV ((l.drop 4).take 8) < 256 ^ 8 := fun l => Nat.lt_of_lt_of_le (beV_lt _) (Nat.pow_le_pow_right (by decide) (by rw [List.length_take]; omega))
  unfold unpackT
  repeat' split
  all_goals first | (show 0 < 256 ^ 8; decide) | exact key _
theorem unpack_len {s : List UInt8} (h : (unpackT s).2.2 = 0) : (unpackT s).2.1.length ≤ 488 := by
  unfold unpackT at h ⊢
  repeat' split
  all_goals first | (simp; done) | skip
  rename_i h1 h2 h3 h4
  show (valT _).length ≤ 488
  unfold valT
  rw [List.length_take]
  omega
/-- No sector of noughts has a value. -/
theorem unpack_zero : (unpackT (List.replicate 512 0)).2.2 = 4 ∨ (unpackT (List.replicate 512 0)).2.2 = 2 := by
  unfold unpackT
  have hl : (List.replicate 512 (0 : UInt8)).length = 512 := List.length_replicate
  rw [if_neg (by rw [hl]; decide)]
  by_cases h : (openB (List.replicate 512 0)).2 ≠ 0
  · rw [if_pos h]
    unfold openB at h ⊢
    rw [if_neg (by rw [hl]; decide)] at h ⊢
    split at h
    · rename_i h2; rw [if_pos h2]; exact .inl rfl
    · exact absurd rfl h
  · rw [if_neg h]
    split
    · exact .inr rfl
    · rw [if_pos]
      · exact .inr rfl
      · intro e
        unfold packT at e
        split at e
        · have := congrArg List.length e
          rw [hl] at this
          cases this
        · have h0 := congrArg (fun l : List UInt8 => l[0]?) e
          have h1 : (secT (numT ((List.replicate 512 (0 : UInt8)).take 508)) (valT ((List.replicate 512 (0 : UInt8)).take 508)))[0]? = some 84 := rfl
          have h0 : (secT (numT ((List.replicate 512 (0 : UInt8)).take 508)) (valT ((List.replicate 512 (0 : UInt8)).take 508)))[0]? = (List.replicate 512 (0 : UInt8))[0]? := h0
          rw [h1] at h0
          exact absurd h0 (by decide)
/-! ### On a disk -/
def inT (d : Dk) (at_ : Int) : Prop := 0 ≤ at_ ∧ at_ < d.n - 1
instance (d : Dk) (at_ : Int) : Decidable (inT d at_) := by unfold inT; exact inferInstance
def fmtS (d : Dk) (at_ : Int) (s : List UInt8) : Nat → Int × Dk
  | 0 => writeD d at_ []
  | 1 => writeD (writeD d at_ []).2 (at_ + 1) s
  | _ => flushD (writeD (writeD d at_ []).2 (at_ + 1) s).2
def fmtD (d : Dk) (at_ : Int) (s : List UInt8) : Nat → Dk
  | 0 => d
  | i + 1 => (fmtS d at_ s i).2
def formatT (d : Dk) (at_ : Int) (value : List UInt8) : Int × Dk :=
  if ¬ inT d at_ then (1, d) else if 488 < value.length then (5, d) else
  if (fmtS d at_ (secT 1 value) 0).1 ≠ 0 then fmtS d at_ (secT 1 value) 0 else
  if (fmtS d at_ (secT 1 value) 1).1 ≠ 0 then fmtS d at_ (secT 1 value) 1 else fmtS d at_ (secT 1 value) 2
abbrev TV := Option (Nat × List UInt8)
def openSt (acc : TV) (i : Nat) (s : List UInt8) : TV :=
  if (unpackT s).2.2 ≠ 0 ∨ (unpackT s).1 % 2 ≠ i ∨ (∃ x ∈ acc, (unpackT s).1 < x.1) then acc else some ((unpackT s).1, (unpackT s).2.1)
def openAcc (d : Dk) (at_ : Int) : Nat → TV
  | 0 => none
  | i + 1 => openSt (openAcc d at_ i) i (readD d (at_ + i))
def openT (d : Dk) (at_ : Int) : TV × Int := if ¬ inT d at_ then (none, 1) else if stE d ≠ 0 then (none, stE d) else
  match openAcc d at_ 2 with | none => (none, 2) | some x => (some x, 0)
def putT (d : Dk) (at_ : Int) (number : Nat) (value : List UInt8) : Int × Dk :=
  if 488 < value.length then (5, d) else
  if (writeD d (at_ + ((number + 1 : Nat) : Int) % 2) (secT (number + 1) value)).1 ≠ 0 then writeD d (at_ + ((number + 1 : Nat) : Int) % 2) (secT (number + 1) value) else
  flushD (writeD d (at_ + ((number + 1 : Nat) : Int) % 2) (secT (number + 1) value)).2
/-- A twin as it lies; its disk is not its own. -/
def TwinP (TT bt b : Nat) (at_ : Int) (number : Nat) (value : List UInt8) : HProp := Ex fun (y : Option Addr × Nat) => Pack (number < 256 ^ 8)
  [blk bt [.pointer (some ⟨b, 0, none⟩), .int .i64 at_, .int .u64 (number : Int), .slice y.1 value.length y.2] TT, OwnB (.slice y.1 value.length y.2) value]
section
variable {W0 w : World} {L : List HProp} {TT bt b : Nat} {at_ : Int} {number : Nat} {value : List UInt8}
theorem openTw (H : On W0 (TwinP TT bt b at_ number value :: L) w) : ∃ (a : Option Addr) (c : Nat), number < 256 ^ 8 ∧
    On W0 (blk bt [.pointer (some ⟨b, 0, none⟩), .int .i64 at_, .int .u64 (number : Int), .slice a value.length c] TT :: OwnB (.slice a value.length c) value :: L) w := by
  obtain ⟨⟨a, c⟩, H⟩ := H.ex
  obtain ⟨h, H⟩ := H.unpack
  exact ⟨a, c, h, H⟩
theorem closeTw {a : Option Addr} {c : Nat} (h : number < 256 ^ 8) (H : On W0 (blk bt [.pointer (some ⟨b, 0, none⟩), .int .i64 at_, .int .u64 (number : Int), .slice a value.length c] TT :: OwnB (.slice a value.length c) value :: L) w) :
    On W0 (TwinP TT bt b at_ number value :: L) w := On.exI (a, c) (On.pack h H)
end
end Go.Sl.TwM
namespace Go.Sl.DkM
open Go Go.Sl
/-- Room for so many calls more. -/
def Dk.lowK (d : Dk) (k : Int) : Prop := d.calls + k ≤ 1000000000000 ∧ d.armed ≤ 1000000000000000000
theorem Dk.lowK.low {d : Dk} {k : Int} (h : d.lowK k) (hk : 0 ≤ k) : d.low := ⟨by have := h.1; omega, h.2⟩
theorem lowK_call {d : Dk} {k : Int} (h : d.lowK (k + 1)) : (callD d).2.lowK k := by
  obtain ⟨h1, h2⟩ := h
  rcases callD_cases (d := d) with ⟨_, a, e, e1, e2⟩ | ⟨e0, e⟩
  · rw [e]
    refine ⟨by show d.calls + 1 + k ≤ _; omega, ?_⟩
    show a ≤ _
    by_cases hp : 0 < d.armed
    · have := (e1 hp).2; omega
    · have := e2 hp; omega
  · rw [e]
    have hc := crashD_calls { d with armed := 0 } d.picks
    refine ⟨by rw [hc]; show d.calls + k ≤ _; omega, ?_⟩
    unfold crashD
    split <;> (show (0 : Int) ≤ _; decide)
theorem lowK_write {d : Dk} {k j : Int} {bs : List UInt8} (h : d.lowK (k + 1)) : (writeD d j bs).2.lowK k := by
  have h0 : d.lowK k := ⟨by have := h.1; omega, h.2⟩
  unfold writeD
  split
  · exact h0
  · split
    · exact h0
    · split
      · exact lowK_call h
      · exact lowK_call h
theorem lowK_flush {d : Dk} {k : Int} (h : d.lowK (k + 1)) : (flushD d).2.lowK k := by
  have h0 : d.lowK k := ⟨by have := h.1; omega, h.2⟩
  unfold flushD
  split
  · exact h0
  · split
    · exact lowK_call h
    · exact lowK_call h
theorem callD_n (d : Dk) : (callD d).2.n = d.n := by
  rcases callD_cases (d := d) with ⟨_, a, e, _⟩ | ⟨_, e⟩
  · rw [e]
  · rw [e]; exact crashD_n _ _
theorem writeD_n (d : Dk) (k : Int) (bs : List UInt8) : (writeD d k bs).2.n = d.n := by
  unfold writeD
  split
  · rfl
  · split
    · rfl
    · split
      · exact callD_n d
      · exact callD_n d
theorem flushD_n (d : Dk) : (flushD d).2.n = d.n := by
  unfold flushD
  split
  · rfl
  · split
    · exact callD_n d
    · exact callD_n d
end Go.Sl.DkM
namespace Go.Sl.TwM
open Go Go.Sl Go.Sl.ByM Go.Sl.DkM
theorem part_front {s : List UInt8} {n a k : Nat} (h : a + k ≤ n) : ((s.take n).drop a).take k = (s.drop a).take k := by
  rw [List.drop_take, List.take_take, Nat.min_eq_left (by omega)]
theorem numT_front (s : List UInt8) : numT (s.take 508) = numT s := by unfold numT; rw [part_front (by omega)]
theorem lenT_front (s : List UInt8) : lenT (s.take 508) = lenT s := by unfold lenT; rw [part_front (by omega)]
theorem valT_front {s : List UInt8} (h : lenT s ≤ 488) : valT (s.take 508) = valT s := by unfold valT; rw [lenT_front, part_front (by omega)]
/-- As the document has it. -/
theorem unpack_ref {s : List UInt8} (h : s.length = 512) : unpackT s = if four (crcS (s.take 508)) ≠ s.drop 508 then (0, [], 4) else
    if 488 < lenT s then (0, [], 2) else if (packT (numT s) (valT s)).1 ≠ s then (0, [], 2) else (numT s, valT s, 0) := by
  have h4 : s.length - 4 = 508 := by omega
  have ho : openB s = if four (crcS (s.take 508)) ≠ s.drop 508 then ([], 4) else (s.take 508, 0) := by
    unfold openB
    rw [if_neg (by omega), h4]
  unfold unpackT
  rw [if_neg (by omega), ho, lenT_front, numT_front]
  by_cases h1 : four (crcS (s.take 508)) ≠ s.drop 508
  · rw [if_pos h1]
    rw [if_pos (by show (4 : Int) ≠ 0; decide), if_pos h1]
  · rw [if_neg h1]
    rw [if_neg (by show ¬ ((0 : Int) ≠ 0); decide), if_neg h1]
    by_cases h2 : 488 < lenT s
    · rw [if_pos h2, if_pos h2]
    · rw [if_neg h2, if_neg h2, valT_front (by omega)]
end Go.Sl.TwM
namespace Go.Sl.TwM
open Go Go.Sl Go.Sl.ByM Go.Sl.DkM
def tvN (x : TV) : Nat := (x.map (·.1)).getD 0
def tvV (x : TV) : List UInt8 := (x.map (·.2)).getD []
theorem rdE_in {d : Dk} {at_ : Int} {i : Nat} (h : inT d at_) (hi : i < 2) : rdE d (at_ + i) = stE d := by
  obtain ⟨h1, h2⟩ := h
  unfold rdE
  split
  · rfl
  · rename_i h3
    rw [if_pos ⟨by omega, by omega⟩]
    exact (Decidable.not_not.1 h3).symm
theorem openSt_skip {acc : TV} {i : Nat} {s : List UInt8} (h : (unpackT s).2.2 ≠ 0 ∨ (unpackT s).1 % 2 ≠ i ∨ (acc.isSome = true ∧ (unpackT s).1 < tvN acc)) : openSt acc i s = acc := by
  unfold openSt
  rw [if_pos]
  rcases h with h | h | ⟨h1, h2⟩
  · exact .inl h
  · exact .inr (.inl h)
  · refine .inr (.inr ?_)
    cases acc with
    | none => cases h1
    | some x => exact ⟨x, rfl, h2⟩
theorem openSt_take {acc : TV} {i : Nat} {s : List UInt8} (h1 : (unpackT s).2.2 = 0) (h2 : (unpackT s).1 % 2 = i) (h3 : acc.isSome = true → ¬ (unpackT s).1 < tvN acc) : openSt acc i s = some ((unpackT s).1, (unpackT s).2.1) := by
  unfold openSt
  rw [if_neg]
  rintro (h | h | ⟨x, hx, h⟩)
  · exact h h1
  · exact h h2
  · cases acc with
    | none => cases hx
    | some y =>
      cases hx
      exact h3 rfl h
theorem tvN_lt {d : Dk} {at_ : Int} : ∀ i, tvN (openAcc d at_ i) < 256 ^ 8
  | 0 => by show 0 < 256 ^ 8; decide
  | i + 1 => by
    show tvN (openSt (openAcc d at_ i) i (readD d (at_ + i))) < _
    unfold openSt
    split
    · exact tvN_lt i
    · exact unpack_num _
theorem openT_out {d : Dk} {at_ : Int} (h : ¬ inT d at_) : openT d at_ = (none, 1) := by unfold openT; rw [if_pos h]
theorem openT_st {d : Dk} {at_ : Int} (h : inT d at_) (h2 : stE d ≠ 0) : openT d at_ = (none, stE d) := by unfold openT; rw [if_neg (fun hh => hh h), if_pos h2]
theorem openT_none {d : Dk} {at_ : Int} (h : inT d at_) (h2 : stE d = 0) (h3 : openAcc d at_ 2 = none) : openT d at_ = (none, 2) := by unfold openT; rw [if_neg (fun hh => hh h), if_neg (by rw [h2]; decide), h3]
theorem openT_some {d : Dk} {at_ : Int} {x : Nat × List UInt8} (h : inT d at_) (h2 : stE d = 0) (h3 : openAcc d at_ 2 = some x) : openT d at_ = (some x, 0) := by unfold openT; rw [if_neg (fun hh => hh h), if_neg (by rw [h2]; decide), h3]
end Go.Sl.TwM
