/-
  The plain law of a full set of simple tasks. No program is named here.
-/
import Derived.Test.YtbfdkalcpacaaaaTaskModel
namespace Go.Sl.TkM
open Go Go.Sl
set_option linter.unusedVariables false
def L0 (k : Nat) : List Tk := (List.range k).map fun (i : Nat) => ⟨(i : Int), 0, false⟩
theorem L0_length (k : Nat) : (L0 k).length = k := by simp [L0]
theorem L0_get {k j : Nat} : (L0 k)[j]? = if j < k then some ⟨(j : Int), 0, false⟩ else none := by
  unfold L0
  rw [List.getElem?_map]
  by_cases h : j < k
  · rw [List.getElem?_range h, if_pos h]; rfl
  · rw [if_neg h, List.getElem?_eq_none (by simpa using h)]; rfl
theorem L0_succ (k : Nat) : L0 (k + 1) = L0 k ++ [⟨(k : Int), 0, false⟩] := by simp [L0, List.range_succ]
/-- A row of tasks of which each is simple, and none is started, each with its place or a bigger one as its tag. -/
theorem find_none {m : Int} {l : List Tk} {tag : Int} (h : ∀ x ∈ l, x.tag ≠ tag) : findT ⟨m, l⟩ tag = -1 := by
  unfold findT
  exact idxI_none fun x hx => by simpa using h x hx
theorem find_L0 {m : Int} {k d : Nat} (h : d < k) : findT ⟨m, L0 k⟩ (d : Int) = d := by
  unfold findT
  refine idxI_hit (x := ⟨(d : Int), 0, false⟩) ?_ (by simp) ?_
  · show (L0 k)[d]? = _
    rw [L0_get, if_pos h]
  · intro j y hj hy
    have hy' : (L0 k)[j]? = some y := hy
    rw [L0_get, if_pos (by omega)] at hy'
    cases hy'
    simp; omega
theorem L0_mem {k : Nat} {x : Tk} (h : x ∈ L0 k) : x.attr = 0 ∧ x.st = false ∧ 0 ≤ x.tag ∧ x.tag < k := by
  obtain ⟨i, hi, rfl⟩ := List.mem_map.1 h
  simp at hi
  exact ⟨rfl, rfl, by show (0 : Int) ≤ (i : Int); omega, by show (i : Int) < k; omega⟩
theorem ins_end {s : TS} {attr : Int} {t : Tk} (h : attr ≠ 2) : insT s (atT s attr) t = ⟨s.most, s.l ++ [t]⟩ := by
  unfold insT atT
  rw [if_neg (fun hh => h hh.1), List.take_length, List.drop_length]
theorem enB_simple {l : List Tk} {i : Nat} {t : Tk} (h1 : t.st = false) (h2 : t.attr = 0) (h3 : ∀ u ∈ l.take i, u.attr = 0) : enB l i t = true := by
  unfold enB
  rw [if_neg (by rw [h1]; decide), if_neg (by rw [h2]; decide), if_neg (by rw [h2]; decide)]
  have : ((l.take i).any fun u => decide (u.attr ≠ 0)) = false := by
    rw [List.any_eq_false]
    intro u hu
    simp [h3 u hu]
  rw [this]; rfl
theorem enL_all {l : List Tk} : ∀ (k : Nat), (∀ i, i < k → ∃ t, l[i]? = some t ∧ enB l i t = true) → (enL l k).length = k := by
  intro k
  induction k with
  | zero => intro _; rfl
  | succ k ih =>
    intro h
    obtain ⟨t, h1, h2⟩ := h k (by omega)
    rw [enL_succ h1, if_pos h2, List.length_append, ih (fun i hi => h i (by omega))]
    rfl
theorem en_L0 (k : Nat) : (enL (L0 k) (L0 k).length).length = k := by
  rw [L0_length]
  exact enL_all k fun i hi => ⟨_, by rw [L0_get, if_pos hi], enB_simple rfl rfl fun u hu => (L0_mem (List.mem_of_mem_take hu)).1⟩
def Ld (k d : Nat) : List Tk := (L0 k).set d ⟨(d : Int), 0, true⟩
theorem Ld_get {k d j : Nat} (hd : d < k) : (Ld k d)[j]? = if j < k then some ⟨(j : Int), 0, decide (j = d)⟩ else none := by
  unfold Ld
  rw [List.getElem?_set, L0_get]
  by_cases h : d = j
  · subst h
    rw [if_pos rfl, L0_length, if_pos hd, if_pos hd]; simp
  · rw [if_neg h]
    have : decide (j = d) = false := by simp; omega
    rw [this]
theorem Ld_length {k d : Nat} : (Ld k d).length = k := by unfold Ld; rw [List.length_set, L0_length]
theorem find_Ld {m : Int} {k d : Nat} (h : d < k) : findT ⟨m, Ld k d⟩ (d : Int) = d := by
  unfold findT
  refine idxI_hit (x := ⟨(d : Int), 0, true⟩) ?_ (by simp) ?_
  · show (Ld k d)[d]? = _
    rw [Ld_get h, if_pos h]; simp
  · intro j y hj hy
    have hy' : (Ld k d)[j]? = some y := hy
    rw [Ld_get h, if_pos (by omega)] at hy'
    cases hy'
    simp; omega
theorem Ld_mem {k d : Nat} (hd : d < k) {x : Tk} (h : x ∈ Ld k d) : x.attr = 0 ∧ 0 ≤ x.tag ∧ x.tag < k := by
  obtain ⟨i, hi⟩ := List.getElem?_of_mem h
  rw [Ld_get hd] at hi
  split at hi
  · cases hi
    exact ⟨rfl, by show (0 : Int) ≤ (i : Int); omega, by show (i : Int) < k; omega⟩
  · cases hi
/-- What is left when that one is done. -/
def Lx (k d : Nat) : List Tk := (Ld k d).take d ++ (Ld k d).drop (d + 1)
theorem Lx_length {k d : Nat} (hd : d < k) : (Lx k d).length = k - 1 := by
  unfold Lx
  rw [List.length_append, List.length_take, List.length_drop, Ld_length]; omega
theorem Lx_mem {k d : Nat} (hd : d < k) {x : Tk} (h : x ∈ Lx k d) : x.attr = 0 ∧ x.st = false ∧ 0 ≤ x.tag ∧ x.tag < k := by
  obtain ⟨i, hi⟩ := List.getElem?_of_mem h
  have hlt := (List.getElem?_eq_some_iff.1 hi).1
  rw [Lx_length hd] at hlt
  unfold Lx at hi
  rw [List.getElem?_append, List.length_take, Ld_length] at hi
  split at hi
  · rw [List.getElem?_take, if_pos (by omega), Ld_get hd, if_pos (by omega)] at hi
    cases hi
    exact ⟨rfl, by simp; omega, by show (0 : Int) ≤ (i : Int); omega, by show (i : Int) < k; omega⟩
  · rw [List.getElem?_drop, Ld_get hd, if_pos (by omega)] at hi
    cases hi
    refine ⟨rfl, by simp; omega, ?_, ?_⟩
    · simp only [Int.natCast_nonneg]
    · show ((d + 1 + (i - min d k) : Nat) : Int) < k; omega
theorem en_last {k d : Nat} (hd : d < k) : (enL (Lx k d ++ [⟨1000, 1, false⟩]) k).length = k - 1 + if k = 1 then 1 else 0 := by
  have hl := Lx_length hd
  obtain ⟨q, rfl⟩ : ∃ q, k = q + 1 := ⟨k - 1, by omega⟩
  have hl' : (Lx (q + 1) d).length = q := by rw [hl]; rfl
  have hq : (Lx (q + 1) d ++ [⟨1000, 1, false⟩])[q]? = some ⟨1000, 1, false⟩ := by
    rw [List.getElem?_append_right (by omega), hl']; simp
  rw [enL_succ hq, List.length_append, enL_all q (fun i hi => by
    have hg : (Lx (q + 1) d)[i]? = some ((Lx (q + 1) d)[i]'(by omega)) := by simp
    have hm := Lx_mem hd (List.mem_of_getElem? hg)
    refine ⟨_, by rw [List.getElem?_append_left (by omega), hg], enB_simple hm.2.1 hm.1 fun u hu => ?_⟩
    rw [List.take_append_of_le_length (by omega)] at hu
    exact (Lx_mem hd (List.mem_of_mem_take hu)).1)]
  have he : enB (Lx (q + 1) d ++ [⟨1000, 1, false⟩]) q ⟨1000, 1, false⟩ = decide (q = 0) := rfl
  rw [he]
  by_cases h : q = 0
  · subst h; rfl
  · simp [h]
end Go.Sl.TkM
