/-
  Acts on the network, as plain data; what an act makes of it.
-/
import Derived.Test.YtiejlelkmklgcaaNetModel
import Derived.Test.YtiejlelkmklgcaaSlMisc
namespace Go.Sl.NetM
open Go Go.Sl
set_option linter.unusedVariables false

/-- An act as it lies: its bytes' slice beside what it reads as. -/
structure A where
  op : Int
  f : Int
  t : Int
  n : Int
  ax : Option Addr
  ac : Nat
  bs : List UInt8
def A.cells (a : A) : List Value := [.int .i64 a.op, .int .i64 a.f, .int .i64 a.t, .int .i64 a.n, .slice a.ax a.bs.length a.ac]
theorem A.cells_length (a : A) : a.cells.length = 5 := rfl
def act (m : St) (a : A) : St :=
  if a.op = 1 then send m a.f a.t a.bs else if a.op = 2 then out m a.n else if a.op = 3 then out m a.n else if a.op = 4 then copy m a.n
  else if a.op = 5 then out m (takeI m a.t) else m
theorem out_s (m : St) (i : Int) : (out m i).s = m.s := by unfold out; split <;> rfl
theorem copy_s (m : St) (i : Int) : (copy m i).s = m.s := by
  unfold copy
  split
  · split <;> rfl
  · rfl
theorem send_s (m : St) (f t : Int) (bs : List UInt8) : (send m f t bs).s = m.s ∨ (send m f t bs).s = m.s + 1 := by
  unfold send; split
  · exact .inr rfl
  · exact .inl rfl
theorem act_s (m : St) (a : A) : (act m a).s = m.s ∨ (act m a).s = m.s + 1 := by
  unfold act
  split
  · exact send_s _ _ _ _
  · split
    · exact .inl (out_s _ _)
    · split
      · exact .inl (out_s _ _)
      · split
        · exact .inl (copy_s _ _)
        · split
          · exact .inl (out_s _ _)
          · exact .inl rfl

/-- As many packets as have come, at most 4096. -/
def mfull (k : Nat) : St := ⟨1, List.replicate (min k 4096) ⟨0, 0, []⟩, ((min k 4096 : Nat) : Int)⟩
theorem mfull_e (k : Nat) : sendE (mfull k) 0 0 ([] : List UInt8).length = if 4096 ≤ k then 7 else 0 := by
  unfold sendE mfull
  simp only [List.length_replicate, List.length_nil]
  rw [if_neg (by omega), if_neg (by omega)]
  by_cases h : 4096 ≤ k
  · rw [if_pos (by omega), if_pos h]
  · rw [if_neg (by omega), if_neg h]
theorem mfull_succ (k : Nat) : send (mfull k) 0 0 [] = mfull (k + 1) := by
  unfold send
  rw [mfull_e]
  by_cases h : 4096 ≤ k
  · rw [if_pos h, if_neg (by omega)]
    unfold mfull
    rw [show min k 4096 = 4096 by omega, show min (k + 1) 4096 = 4096 by omega]
  · rw [if_neg h, if_pos rfl]
    unfold mfull
    rw [show min k 4096 = k by omega, show min (k + 1) 4096 = k + 1 by omega, List.replicate_succ']
    rfl
theorem mfull_copyOk {k : Nat} (hk : 1 ≤ k) : copyOk (mfull k) 0 = decide (k < 4096) := by
  unfold copyOk at? mfull
  have h1 : (List.replicate (min k 4096) (⟨0, 0, []⟩ : Pk))[(0 : Int).toNat]? = some ⟨0, 0, []⟩ := by
    rw [List.getElem?_replicate]; simp; omega
  simp only [List.length_replicate]
  by_cases h : k < 4096
  · simp [h]; omega
  · simp [h]; omega
/-- What the first k acts make of an empty network. -/
def runA (H : Int) (acts : List A) (k : Nat) : St := (acts.take k).foldl act ⟨H, [], 0⟩
theorem runA_zero (H : Int) (acts : List A) : runA H acts 0 = ⟨H, [], 0⟩ := rfl
theorem runA_succ {H : Int} {acts : List A} {k : Nat} {a : A} (h : acts[k]? = some a) : act (runA H acts k) a = runA H acts (k + 1) := by
  unfold runA
  obtain ⟨hl, he⟩ := List.getElem?_eq_some_iff.1 h
  rw [List.take_succ_eq_append_getElem hl, List.foldl_append, he]
  rfl
theorem runA_s (H : Int) (acts : List A) (k : Nat) : 0 ≤ (runA H acts k).s ∧ (runA H acts k).s ≤ k := by
  induction k with
  | zero => exact ⟨Int.le_refl _, Int.le_refl _⟩
  | succ k ih =>
    rcases Nat.lt_or_ge k acts.length with h | h
    · rw [← runA_succ (a := acts[k]) (by simp)]
      rcases act_s (runA H acts k) acts[k] with e | e <;> rw [e] <;> omega
    · have : runA H acts (k + 1) = runA H acts k := by unfold runA; rw [List.take_of_length_le (by omega), List.take_of_length_le h]
      rw [this]; omega
theorem at?_lt {m : St} {k : Nat} {p : Pk} (h : m.l[k]? = some p) : at? m (k : Int) = some p := by
  unfold at?
  rw [if_pos (by omega)]
  exact h
end Go.Sl.NetM
