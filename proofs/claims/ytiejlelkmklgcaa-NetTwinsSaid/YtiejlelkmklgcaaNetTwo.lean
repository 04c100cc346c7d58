/-
  Plain laws of the network's model: acts from any state on.
-/
import Derived.Test.YtiejlelkmklgcaaNetLoss
namespace Go.Sl.NetM
open Go Go.Sl
set_option linter.unusedVariables false
/-- What the first k acts make of a network. -/
def runF (m : St) (acts : List A) (k : Nat) : St := (acts.take k).foldl act m
theorem runF_zero (m : St) (acts : List A) : runF m acts 0 = m := rfl
theorem runF_succ {m : St} {acts : List A} {k : Nat} {a : A} (h : acts[k]? = some a) : act (runF m acts k) a = runF m acts (k + 1) := by
  unfold runF
  obtain ⟨hl, he⟩ := List.getElem?_eq_some_iff.1 h
  rw [List.take_succ_eq_append_getElem hl, List.foldl_append, he]
  rfl
theorem runF_end {m : St} {acts : List A} {k : Nat} (h : acts.length ≤ k) : runF m acts (k + 1) = runF m acts k := by
  unfold runF; rw [List.take_of_length_le (by omega), List.take_of_length_le h]
theorem runF_s (m : St) (acts : List A) (k : Nat) : m.s ≤ (runF m acts k).s ∧ (runF m acts k).s ≤ m.s + k := by
  induction k with
  | zero => exact ⟨Int.le_refl _, by rw [runF_zero]; omega⟩
  | succ k ih =>
    rcases Nat.lt_or_ge k acts.length with h | h
    · rw [← runF_succ (a := acts[k]) (by simp)]
      rcases act_s (runF m acts k) acts[k] with e | e <;> rw [e] <;> omega
    · rw [runF_end h]; omega
end Go.Sl.NetM
