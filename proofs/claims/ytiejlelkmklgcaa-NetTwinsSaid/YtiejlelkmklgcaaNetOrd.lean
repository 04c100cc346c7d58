/-
  Plain laws of the network's model: the order in which what was sent is taken.
-/
import Derived.Test.YtiejlelkmklgcaaNetMore
namespace Go.Sl.NetM
open Go Go.Sl
set_option linter.unusedVariables false
/-- Who is written to by the i-th byte. -/
def toOf (l : List UInt8) (i : Nat) : Nat := (l.getD i 0).toNat % 4
def opk (l : List UInt8) (i : Nat) : Pk := ⟨(((l.getD i 0).toNat / 4 % 4 : Nat) : Int), ((toOf l i : Nat) : Int), [l.getD i 0, UInt8.ofNat i]⟩
/-- What waits when the first k were sent. -/
def mord (l : List UInt8) (k : Nat) : St := ⟨4, (List.range k).map (opk l), k⟩
def wanted (l : List UInt8) (t k : Nat) : List Nat := (List.range k).filter (fun i => toOf l i == t)
theorem mord_sendE {l : List UInt8} {k : Nat} (hk : k < 4096) : sendE (mord l k) (opk l k).f (opk l k).t (opk l k).bs.length = 0 := by
  unfold sendE mord opk toOf
  simp only [List.length_map, List.length_range, List.length_cons, List.length_nil]
  rw [if_neg (by omega), if_neg (by omega), if_neg (by omega)]
theorem mord_send {l : List UInt8} {k : Nat} (hk : k < 4096) : send (mord l k) (opk l k).f (opk l k).t (opk l k).bs = mord l (k + 1) := by
  unfold send
  rw [if_pos (mord_sendE hk)]
  unfold mord
  rw [List.range_succ, List.map_append]
  rfl
theorem wanted_succ {l : List UInt8} {t k : Nat} : wanted l t (k + 1) = if toOf l k = t then wanted l t k ++ [k] else wanted l t k := by
  unfold wanted
  rw [List.range_succ, List.filter_append]
  by_cases h : toOf l k = t
  · rw [if_pos h]; simp [h]
  · rw [if_neg h]; simp [h]
theorem mord_filter {l : List UInt8} {t k : Nat} : (mord l k).l.filter (fun p => p.t == (t : Int)) = (wanted l t k).map (opk l) := by
  unfold mord wanted
  rw [List.filter_map]
  congr 1
  apply List.filter_congr
  intro i _
  show (((toOf l i : Nat) : Int) == (t : Int)) = (toOf l i == t)
  rw [Bool.eq_iff_iff]; simp; omega
theorem wanted_lt {l : List UInt8} {t k i : Nat} (h : i ∈ wanted l t k) : i < k := by
  unfold wanted at h
  simpa using (List.mem_filter.1 h).1
theorem wanted_to {l : List UInt8} {t k i : Nat} (h : i ∈ wanted l t k) : toOf l i = t := by
  unfold wanted at h
  simpa using (List.mem_filter.1 h).2
theorem wanted_le {l : List UInt8} {t k : Nat} : (wanted l t k).length ≤ k := by
  unfold wanted
  have := List.length_filter_le (fun i => toOf l i == t) (List.range k)
  simpa using this
/-- What is taken: the first one of that host's. -/
theorem take_find (m : St) (to : Int) : at? m (takeI m to) = m.l.find? (fun p => p.t == to) := by
  unfold takeI at?
  cases h : m.l.findIdx? (fun p => p.t == to) with
  | none =>
    rw [if_neg (by simp)]
    symm
    rw [List.find?_eq_none]
    rw [List.findIdx?_eq_none_iff] at h
    intro x hx; simpa using h x hx
  | some i =>
    simp only
    rw [if_pos (by omega), Int.toNat_natCast]
    rw [List.findIdx?_eq_some_iff_getElem] at h
    obtain ⟨hl, h1, h2⟩ := h
    rw [List.getElem?_eq_getElem hl]
    symm
    rw [List.find?_eq_some_iff_getElem]
    exact ⟨h1, i, hl, rfl, fun j hj => by simpa using h2 j hj⟩
theorem find_filter {α : Type} (p : α → Bool) (l : List α) : l.find? p = (l.filter p).head? := by
  induction l with
  | nil => rfl
  | cons x l ih => 
    rw [List.find?_cons, List.filter_cons]
    cases h : p x with
    | false => exact ih
    | true => rfl
theorem eraseIdx_filter {α : Type} (p : α → Bool) (l : List α) (i : Nat) (hl : i < l.length) (h1 : p l[i] = true) (h2 : ∀ j (hj : j < i), ¬ p (l[j]'(by omega)) = true) : (l.eraseIdx i).filter p = (l.filter p).tail := by
  induction l generalizing i with
  | nil => simp at hl
  | cons x l ih =>
    cases i with
    | zero => simp at h1; simp [h1]
    | succ i =>
      have hx : ¬ p x = true := h2 0 (by omega)
      rw [List.eraseIdx_cons_succ, List.filter_cons_of_neg hx, List.filter_cons_of_neg hx]
      exact ih i (Nat.lt_of_succ_lt_succ hl) h1 (fun j hj => h2 (j + 1) (by omega))
theorem take_out (m : St) (to : Int) (h : ∃ x, x ∈ m.l.filter (fun p => p.t == to)) :
    (out m (takeI m to)).l.filter (fun p => p.t == to) = (m.l.filter (fun p => p.t == to)).tail ∧ (out m (takeI m to)).l.length + 1 = m.l.length ∧ (out m (takeI m to)).s = m.s ∧ (out m (takeI m to)).H = m.H := by
  obtain ⟨x, hx⟩ := h
  cases hf : m.l.findIdx? (fun p => p.t == to) with
  | none =>
    exfalso
    rw [List.findIdx?_eq_none_iff] at hf
    have := List.mem_filter.1 hx
    simpa [this.2] using hf x this.1
  | some i =>
    have ht : takeI m to = (i : Int) := by unfold takeI; rw [hf]
    rw [List.findIdx?_eq_some_iff_getElem] at hf
    obtain ⟨hl, h1, h2⟩ := hf
    rw [ht]
    have hs : (at? m (i : Int)).isSome = true := by unfold at?; rw [if_pos (by omega), Int.toNat_natCast, List.getElem?_eq_getElem hl]; rfl
    unfold out
    rw [if_pos hs, Int.toNat_natCast]
    refine ⟨eraseIdx_filter _ _ i hl h1 (fun j hj => by simpa using h2 j hj), ?_, rfl, rfl⟩
    show (m.l.eraseIdx i).length + 1 = m.l.length
    rw [List.length_eraseIdx_of_lt hl]; omega
theorem opk_at {l : List UInt8} {k : Nat} {x : UInt8} (h : l[k]? = some x) : opk l k = ⟨((x.toNat / 2 ^ 2 % 2 ^ 2 : Nat) : Int), ((x.toNat % 2 ^ 2 : Nat) : Int), [x, UInt8.ofNat k]⟩ := by
  have e : l.getD k 0 = x := by rw [List.getD_eq_getElem?_getD, h]; rfl
  unfold opk toOf
  rw [e]
theorem toOf_at {l : List UInt8} {k : Nat} {x : UInt8} (h : l[k]? = some x) : toOf l k = x.toNat % 2 ^ 2 := by
  have e : l.getD k 0 = x := by rw [List.getD_eq_getElem?_getD, h]; rfl
  unfold toOf
  rw [e]
theorem mord_at {l : List UInt8} {k : Nat} {x : UInt8} (h : l[k]? = some x) (hk : k < 4096) :
    sendE (mord l k) ((x.toNat / 2 ^ 2 % 2 ^ 2 : Nat) : Int) ((x.toNat % 2 ^ 2 : Nat) : Int) [x, UInt8.ofNat k].length = 0 ∧ send (mord l k) ((x.toNat / 2 ^ 2 % 2 ^ 2 : Nat) : Int) ((x.toNat % 2 ^ 2 : Nat) : Int) [x, UInt8.ofNat k] = mord l (k + 1) := by
  have h1 := mord_sendE (l := l) hk
  have h2 := mord_send (l := l) hk
  rw [opk_at h] at h1 h2
  exact ⟨h1, h2⟩
theorem order_take {l : List UInt8} {t n i : Nat} {m : St} (hf : m.l.filter (fun p => p.t == (t : Int)) = ((wanted l t n).drop i).map (opk l)) {q : Nat} (hq : (wanted l t n)[i]? = some q) :
    at? m (takeI m (t : Int)) = some (opk l q) ∧ (out m (takeI m (t : Int))).l.filter (fun p => p.t == (t : Int)) = ((wanted l t n).drop (i + 1)).map (opk l) ∧
      (out m (takeI m (t : Int))).l.length + 1 = m.l.length ∧ (out m (takeI m (t : Int))).s = m.s := by
  obtain ⟨hl, he⟩ := List.getElem?_eq_some_iff.1 hq
  have hd : (wanted l t n).drop i = q :: (wanted l t n).drop (i + 1) := by rw [List.drop_eq_getElem_cons hl, he]
  rw [hd, List.map_cons] at hf
  obtain ⟨h1, h2, h3, _⟩ := take_out m (t : Int) ⟨opk l q, by rw [hf]; exact List.mem_cons_self ..⟩
  refine ⟨by rw [take_find, find_filter, hf]; rfl, by rw [h1, hf]; rfl, h2, h3⟩
theorem order_none {m : St} {t : Nat} (hf : m.l.filter (fun p => p.t == (t : Int)) = []) : at? m (takeI m (t : Int)) = none ∧ out m (takeI m (t : Int)) = m := by
  have h : at? m (takeI m (t : Int)) = none := by rw [take_find, find_filter, hf]; rfl
  refine ⟨h, ?_⟩
  unfold out
  rw [h]
  rfl
end Go.Sl.NetM
