/-
  A journal in sectors that go round: plain. No program is named here.
-/
import Derived.Test.YtlahgihjjabgmaaTwinL
namespace Go.Sl.RgM
open Go Go.Sl Go.Sl.ByM Go.Sl.DkM Go.Sl.TwM
set_option linter.unusedVariables false
/-! ### Sectors -/
def needR (n : Nat) : Nat := max (n / 480 + (if n % 480 = 0 then 0 else 1)) 1
def markR : List UInt8 := [82, 73, 78, 71]
def bodyR (number life part parts : Nat) (b : List UInt8) : List UInt8 := markR ++ be number 8 ++ be life 4 ++ be part 2 ++ be parts 2 ++ be b.length 2 ++ b
def secR (number life part parts : Nat) (b : List UInt8) : List UInt8 := sealB (padB (bodyR number life part parts b) 508)
def packR (number life part parts : Nat) (b : List UInt8) : List UInt8 × Int :=
  if parts ≤ part ∨ 65535 < parts then ([], 1) else if 480 < b.length then ([], 5) else (secR number life part parts b, 0)
theorem bodyR_length (number life part parts : Nat) (b : List UInt8) : (bodyR number life part parts b).length = 22 + b.length := by
  unfold bodyR
  simp only [List.length_append, be_length]
  show 4 + 8 + 4 + 2 + 2 + 2 + b.length = _
  omega
theorem secR_length {number life part parts : Nat} {b : List UInt8} (h : b.length ≤ 480) : (secR number life part parts b).length = 512 := by
  unfold secR
  rw [seal_length, padB_length (by rw [bodyR_length]; omega)]
structure Un where
  number : Nat
  life : Nat
  part : Nat
  parts : Nat
  b : List UInt8
  err : Int
def fieldR (s : List UInt8) (a k : Nat) : Nat := beV ((s.drop a).take k)
def valR (s : List UInt8) : List UInt8 := (s.drop 22).take (fieldR s 20 2)
def unpackR (s : List UInt8) : Un :=
  if s.length ≠ 512 then ⟨0, 0, 0, 0, [], 3⟩ else if (openB s).2 ≠ 0 then ⟨0, 0, 0, 0, [], (openB s).2⟩ else
  if 480 < fieldR (s.take 508) 20 2 then ⟨0, 0, 0, 0, [], 2⟩ else
  if (packR (fieldR (s.take 508) 4 8) (fieldR (s.take 508) 12 4) (fieldR (s.take 508) 16 2) (fieldR (s.take 508) 18 2) (valR (s.take 508))).2 ≠ 0 ∨
    (packR (fieldR (s.take 508) 4 8) (fieldR (s.take 508) 12 4) (fieldR (s.take 508) 16 2) (fieldR (s.take 508) 18 2) (valR (s.take 508))).1 ≠ s then ⟨0, 0, 0, 0, [], 2⟩ else
  ⟨fieldR (s.take 508) 4 8, fieldR (s.take 508) 12 4, fieldR (s.take 508) 16 2, fieldR (s.take 508) 18 2, valR (s.take 508), 0⟩
theorem fieldR_lt (s : List UInt8) (a k : Nat) : fieldR s a k < 256 ^ k := Nat.lt_of_lt_of_le (beV_lt _) (Nat.pow_le_pow_right (by decide) (by rw [List.length_take]; omega))
/-- A field among others. -/
theorem field_at {x y : List UInt8} {v a k : Nat} (ha : x.length = a) (hv : v < 256 ^ k) : fieldR (x ++ (be v k ++ y)) a k = v := by
  unfold fieldR
  rw [take_mid ha (be_length _ _), beV_be hv]
section
variable {number life part parts : Nat} {b : List UInt8}
theorem body_fields (h1 : number < 256 ^ 8) (h2 : life < 256 ^ 4) (h3 : part < 256 ^ 2) (h4 : parts < 256 ^ 2) (h5 : b.length ≤ 480) :
    fieldR (padB (bodyR number life part parts b) 508) 4 8 = number ∧ fieldR (padB (bodyR number life part parts b) 508) 12 4 = life ∧ fieldR (padB (bodyR number life part parts b) 508) 16 2 = part ∧
    fieldR (padB (bodyR number life part parts b) 508) 18 2 = parts ∧ fieldR (padB (bodyR number life part parts b) 508) 20 2 = b.length ∧ valR (padB (bodyR number life part parts b) 508) = b := by
  have e : ∃ z : List UInt8, padB (bodyR number life part parts b) 508 = markR ++ be number 8 ++ be life 4 ++ be part 2 ++ be parts 2 ++ be b.length 2 ++ b ++ z := ⟨_, rfl⟩
  obtain ⟨z, e⟩ := e
  rw [e]
  have l0 : markR.length = 4 := rfl
  have hl : fieldR (markR ++ be number 8 ++ be life 4 ++ be part 2 ++ be parts 2 ++ be b.length 2 ++ b ++ z) 20 2 = b.length := by
    have := field_at (x := markR ++ be number 8 ++ be life 4 ++ be part 2 ++ be parts 2) (y := b ++ z) (v := b.length) (a := 20) (k := 2) (by simp only [List.length_append, be_length, l0]) (by omega)
    simp only [List.append_assoc] at this ⊢
    exact this
  refine ⟨?_, ?_, ?_, ?_, hl, ?_⟩
  · have := field_at (x := markR) (y := be life 4 ++ be part 2 ++ be parts 2 ++ be b.length 2 ++ b ++ z) (v := number) (a := 4) (k := 8) rfl h1
    simp only [List.append_assoc] at this ⊢
    exact this
  · have := field_at (x := markR ++ be number 8) (y := be part 2 ++ be parts 2 ++ be b.length 2 ++ b ++ z) (v := life) (a := 12) (k := 4) (by simp only [List.length_append, be_length, l0]) h2
    simp only [List.append_assoc] at this ⊢
    exact this
  · have := field_at (x := markR ++ be number 8 ++ be life 4) (y := be parts 2 ++ be b.length 2 ++ b ++ z) (v := part) (a := 16) (k := 2) (by simp only [List.length_append, be_length, l0]) h3
    simp only [List.append_assoc] at this ⊢
    exact this
  · have := field_at (x := markR ++ be number 8 ++ be life 4 ++ be part 2) (y := be b.length 2 ++ b ++ z) (v := parts) (a := 18) (k := 2) (by simp only [List.length_append, be_length, l0]) h4
    simp only [List.append_assoc] at this ⊢
    exact this
  · unfold valR
    rw [hl, List.append_assoc _ b z]
    exact take_mid (by simp only [List.length_append, be_length, l0]) rfl
theorem unpack_secR (h1 : number < 256 ^ 8) (h2 : life < 256 ^ 4) (h3 : part < parts) (h4 : parts ≤ 65535) (h5 : b.length ≤ 480) : unpackR (secR number life part parts b) = ⟨number, life, part, parts, b, 0⟩ := by
  have hl := secR_length (number := number) (life := life) (part := part) (parts := parts) h5
  have hp : (padB (bodyR number life part parts b) 508).length = 508 := padB_length (by rw [bodyR_length]; omega)
  have e1 : (secR number life part parts b).take 508 = padB (bodyR number life part parts b) 508 := by
    unfold secR sealB
    have := List.take_left (l₁ := padB (bodyR number life part parts b) 508) (l₂ := four (crcS (padB (bodyR number life part parts b) 508)))
    rw [hp] at this
    exact this
  obtain ⟨f1, f2, f3, f4, f5, f6⟩ := body_fields (number := number) (life := life) (part := part) (parts := parts) (b := b) h1 h2 (by omega) (by omega) h5
  have e2 : openB (secR number life part parts b) = (padB (bodyR number life part parts b) 508, 0) := open_seal _
  have e3 : packR number life part parts b = (secR number life part parts b, 0) := by unfold packR; rw [if_neg (by omega), if_neg (by omega)]
  unfold unpackR
  rw [if_neg (by rw [hl]; decide), e1, f1, f2, f3, f4, f5, f6, e2, e3, if_neg (by show ¬ ((0 : Int) ≠ 0); decide), if_neg (by omega), if_neg (by simp)]
end
theorem unpackR_ok {s : List UInt8} (h : (unpackR s).err = 0) : (unpackR s).part < (unpackR s).parts ∧ (unpackR s).parts ≤ 65535 ∧ (unpackR s).b.length ≤ 480 ∧ (unpackR s).number < 256 ^ 8 ∧ (unpackR s).life < 256 ^ 4 := by
  unfold unpackR at h ⊢
  split
  · rename_i h1; rw [if_pos h1] at h; exact absurd h (by decide)
  rename_i h1; rw [if_neg h1] at h
  split
  · rename_i h2; rw [if_pos h2] at h; exact absurd h h2
  rename_i h2; rw [if_neg h2] at h
  split
  · rename_i h3; rw [if_pos h3] at h; exact absurd h (by decide)
  rename_i h3; rw [if_neg h3] at h
  split
  · rename_i h4; rw [if_pos h4] at h; exact absurd h (by decide)
  rename_i h4
  have h5 : (packR (fieldR (s.take 508) 4 8) (fieldR (s.take 508) 12 4) (fieldR (s.take 508) 16 2) (fieldR (s.take 508) 18 2) (valR (s.take 508))).2 = 0 := Decidable.not_not.1 fun hh => h4 (.inl hh)
  unfold packR at h5
  split at h5
  · exact absurd h5 (by show ¬ (1 : Int) = 0; decide)
  rename_i h6
  split at h5
  · exact absurd h5 (by show ¬ (5 : Int) = 0; decide)
  exact ⟨by show fieldR _ _ _ < fieldR _ _ _; omega, by show fieldR _ _ _ ≤ _; omega, by show (valR _).length ≤ 480; omega, fieldR_lt _ _ _, fieldR_lt _ _ _⟩
theorem unpackR_sec {s : List UInt8} (h : (unpackR s).err = 0) : s = secR (unpackR s).number (unpackR s).life (unpackR s).part (unpackR s).parts (unpackR s).b := by
  unfold unpackR at h ⊢
  by_cases h1 : s.length ≠ 512
  · rw [if_pos h1] at h; exact absurd h (by decide)
  rw [if_neg h1] at h ⊢
  by_cases h2 : (openB s).2 ≠ 0
  · rw [if_pos h2] at h; exact absurd h h2
  rw [if_neg h2] at h ⊢
  by_cases h3 : 480 < fieldR (s.take 508) 20 2
  · rw [if_pos h3] at h; exact absurd h (by decide)
  rw [if_neg h3] at h ⊢
  generalize hP : packR (fieldR (s.take 508) 4 8) (fieldR (s.take 508) 12 4) (fieldR (s.take 508) 16 2) (fieldR (s.take 508) 18 2) (valR (s.take 508)) = P at h ⊢
  by_cases h4 : P.2 ≠ 0 ∨ P.1 ≠ s
  · rw [if_pos h4] at h; exact absurd h (by decide)
  rw [if_neg h4]
  have h5 : P.2 = 0 := Decidable.not_not.1 fun hh => h4 (.inl hh)
  have h6 : P.1 = s := Decidable.not_not.1 fun hh => h4 (.inr hh)
  unfold packR at hP
  split at hP
  · subst hP; exact absurd h5 (by decide)
  · split at hP
    · subst hP; exact absurd h5 (by decide)
    · subst hP; exact h6.symm
theorem secR_head (number life part parts : Nat) (b : List UInt8) : (secR number life part parts b)[0]? = some 82 := rfl
theorem unpackR_zero : (unpackR (List.replicate 512 0)).err ≠ 0 := by
  generalize hs : List.replicate 512 (0 : UInt8) = s
  intro h
  have e := unpackR_sec h
  have h1 := secR_head (unpackR s).number (unpackR s).life (unpackR s).part (unpackR s).parts (unpackR s).b
  rw [← e, ← hs] at h1
  cases h1
end Go.Sl.RgM
