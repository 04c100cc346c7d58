/-
  Plain laws of the network's model: what comes was sent.
-/
import Derived.Test.YtiejlelkmklgcaaNetOrd
namespace Go.Sl.NetM
open Go Go.Sl
set_option linter.unusedVariables false
/-- What is not a sending adds no packet that is not like one that waits. -/
theorem act_sub {m : St} {a : A} (h : a.op ≠ 1) : ∀ p ∈ (act m a).l, p ∈ m.l := by
  intro p hp
  have ho : ∀ i, p ∈ (out m i).l → p ∈ m.l := by
    intro i hi
    unfold out at hi
    split at hi
    · exact List.mem_of_mem_eraseIdx hi
    · exact hi
  unfold act at hp
  rw [if_neg h] at hp
  split at hp
  · exact ho _ hp
  · split at hp
    · exact ho _ hp
    · split at hp
      · unfold copy at hp
        split at hp
        · rename_i q hq
          split at hp
          · rcases List.mem_append.1 hp with h1 | h1
            · exact h1
            · have : p = q := by simpa using h1
              subst this
              unfold at? at hq
              split at hq
              · exact List.mem_of_getElem? hq
              · cases hq
          · exact hp
        · exact hp
      · split at hp
        · exact ho _ hp
        · exact hp
theorem act_keep {m : St} {a : A} (h : a.op ≠ 1) : (act m a).s = m.s := by
  unfold act
  rw [if_neg h]
  split
  · exact out_s _ _
  · split
    · exact out_s _ _
    · split
      · exact copy_s _ _
      · split
        · exact out_s _ _
        · rfl
/-- Is a packet like one of the first k that were sent? -/
def was (S : List A) (p : Pk) (k : Nat) : Bool := (S.take k).any (fun a => decide (a.f = p.f) && decide (a.t = p.t) && decide (a.bs = p.bs))
theorem was_succ {S : List A} {p : Pk} {k : Nat} {a : A} (h : S[k]? = some a) : was S p (k + 1) = (was S p k || (decide (a.f = p.f) && decide (a.t = p.t) && decide (a.bs = p.bs))) := by
  obtain ⟨hl, he⟩ := List.getElem?_eq_some_iff.1 h
  unfold was
  rw [List.take_succ_eq_append_getElem hl, List.any_append, he]
  simp
theorem was_all {S : List A} {p : Pk} (h : ∃ a ∈ S, a.f = p.f ∧ a.t = p.t ∧ a.bs = p.bs) : was S p S.length = true := by
  obtain ⟨a, ha, h1, h2, h3⟩ := h
  unfold was
  rw [List.take_length, List.any_eq_true]
  exact ⟨a, ha, by simp [h1, h2, h3]⟩
/-- What is kept along: all that waits was sent. -/
def Kept (S : List A) (m : St) : Prop := (∀ p ∈ m.l, ∃ a ∈ S, a.f = p.f ∧ a.t = p.t ∧ a.bs = p.bs) ∧ m.s = (S.length : Int)
theorem Kept.other {S : List A} {m : St} {a : A} (K : Kept S m) (h : a.op ≠ 1) : Kept S (act m a) := ⟨fun p hp => K.1 p (act_sub h p hp), by rw [act_keep h]; exact K.2⟩
theorem Kept.sent {S : List A} {m : St} {a : A} (K : Kept S m) (h : a.op = 1) (he : sendE m a.f a.t a.bs.length = 0) : Kept (S ++ [a]) (act m a) := by
  unfold act send
  rw [if_pos h, if_pos he]
  refine ⟨fun p hp => ?_, by show m.s + 1 = _; rw [K.2, List.length_append]; rfl⟩
  rcases List.mem_append.1 hp with h1 | h1
  · obtain ⟨b, hb, e⟩ := K.1 p h1
    exact ⟨b, List.mem_append_left _ hb, e⟩
  · have : p = ⟨a.f, a.t, a.bs⟩ := by simpa using h1
    subst this
    exact ⟨a, List.mem_append_right _ (by simp), rfl, rfl, rfl⟩
theorem Kept.refused {S : List A} {m : St} {a : A} (K : Kept S m) (h : a.op = 1) (he : ¬ sendE m a.f a.t a.bs.length = 0) : Kept S (act m a) := by
  unfold act send
  rw [if_pos h, if_neg he]
  exact K
theorem Kept.has {S : List A} {m : St} {p : Pk} {i : Int} (K : Kept S m) (h : at? m i = some p) : was S p S.length = true := by
  unfold at? at h
  split at h
  · exact was_all (K.1 p (List.mem_of_getElem? h))
  · cases h
end Go.Sl.NetM
