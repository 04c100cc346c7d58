/-
  Plain laws of blocks: what is read where something was written. No program is named here.
-/
import Derived.Test.YtdpakoefdpmebaaGreatSpaceModel
namespace Go.Sl.SpM
open Go Go.Sl Go.Sl.BitM
set_option linter.unusedVariables false
theorem partS_length {s : Sp} {p q : Nat} (hw : wfS s) (h : p + q ≤ s.N) : (partS s p q).length = 8 * q := by
  obtain ⟨h1, _⟩ := hw
  unfold partS; rw [List.length_take, List.length_drop]; omega
theorem partS_get {s : Sp} {p q j : Nat} (h : j < 8 * q) : (partS s p q)[j]? = s.d[8 * p + j]? := by
  unfold partS; rw [List.getElem?_take, if_pos h, List.getElem?_drop]
theorem partS_write {s : Sp} {p q : Nat} {bs : List UInt8} (hw : wfS s) (hb : bs.length = 8 * q) (h : p + q ≤ s.N) : partS (writeS s p bs) p q = bs := by
  apply List.ext_getElem?
  intro j
  by_cases hj : j < 8 * q
  · rw [partS_get hj]
    show (over s.d (8 * p) bs)[8 * p + j]? = _
    rw [over_get (by have := hw.1; omega), if_pos (by omega), show 8 * p + j - 8 * p = j by omega]
  · rw [List.getElem?_eq_none (by rw [partS_length (writeS_wf hw (by omega)) h]; omega), List.getElem?_eq_none (by omega)]
/-- The first place at which two rows of bytes differ, if there is one. -/
theorem prefix_eq {xs ys : List UInt8} {k : Nat} (h : ∀ j, j < k → xs[j]? = ys[j]?) (hx : xs.length = k) : xs = ys.take k := by
  apply List.ext_getElem?
  intro j
  rw [List.getElem?_take]
  by_cases hj : j < k
  · rw [if_pos hj, h j hj]
  · rw [if_neg hj, List.getElem?_eq_none (by omega)]
theorem bytes_front {a : Option Addr} {c k : Nat} {bs : List UInt8} {h : Hp} (C : Bytes (.slice a bs.length c) bs h) (hk : k ≤ bs.length) : Cells 1 (.slice a k c) k (bytesV (bs.take k)) h := by
  have := Cells.front C hk
  rw [Nat.mul_one] at this
  rw [show bytesV (bs.take k) = (bytesV bs).take k by simp [bytesV, List.map_take]]
  exact this
theorem once_diff {old want fresh : List UInt8} {i : Nat} (ho : old.length = 8) (hw : want.length = 8) (hi : i < 8) (hne : old[i]? ≠ (want ++ fresh)[i]?) (hsame : ∀ j, j < i → old[j]? = (want ++ fresh)[j]?) :
    ¬ old = want ∧ (∃ x y, old[i]? = some x ∧ want[i]? = some y ∧ x.toNat ≠ y.toNat) ∧ old.take i = want.take i := by
  have hapw : ∀ j, j < 8 → (want ++ fresh)[j]? = want[j]? := fun j hj => List.getElem?_append_left (by omega)
  have hx : old[i]? = some (old[i]'(by omega)) := by simp
  have hy : want[i]? = some (want[i]'(by omega)) := by simp
  refine ⟨fun e => hne (by rw [hapw i hi, e]), ⟨_, _, hx, hy, fun e => hne (by rw [hapw i hi, hx, hy, UInt8.toNat_inj.1 e])⟩, List.ext_getElem? fun j => ?_⟩
  rw [List.getElem?_take, List.getElem?_take]
  split
  · rw [hsame j (by omega), hapw j (by omega)]
  · rfl
theorem u8_and (x y : UInt8) : ((x.toNat &&& y.toNat : Nat) : Int) = ((x &&& y).toNat : Int) := by rw [UInt8.toNat_and]
/-- The bytes of one block that begins with a byte. -/
def oneB (x : UInt8) : List UInt8 := [x, 0, 0, 0, 0, 0, 0, 0]
theorem oneB_diff {x y : UInt8} {i : Nat} {t : List UInt8} (h : (oneB x)[i]? ≠ (oneB y ++ t)[i]?) (hi : i < 8) : i = 0 ∧ x ≠ y := by
  match i, hi with
  | 0, _ => exact ⟨rfl, fun e => h (by rw [e]; rfl)⟩
  | 1, _ => exact (h rfl).elim
  | 2, _ => exact (h rfl).elim
  | 3, _ => exact (h rfl).elim
  | 4, _ => exact (h rfl).elim
  | 5, _ => exact (h rfl).elim
  | 6, _ => exact (h rfl).elim
  | 7, _ => exact (h rfl).elim
/-- Blocks cleared in what was written into new ones. -/
theorem zero_byte {data : List UInt8} {p q i k : Nat} (hd : data.length % 8 = 0) (hl : data.length ≤ 128) (hpq : p + q ≤ 16) (hi : i < 16) (hk1 : 8 * i ≤ k) (hk2 : k < 8 * i + 8) :
    (partS (unmapS (writeS (newS 16) 0 data) p q) 0 16)[k]? = if p ≤ i ∧ i < p + q then some 0 else if 8 * i < data.length then data[k]? else some 0 := by
  have hw1 := writeS_wf (s := newS 16) (at_ := 0) (bs := data) (newS_wf (by omega) (by omega)) (by show _ ≤ 8 * 16; omega)
  rw [partS_get (by omega)]
  show (over (over (List.replicate 128 0) 0 data) (8 * p) (List.replicate (8 * q) 0))[8 * 0 + k]? = _
  have hl1 : (over (List.replicate 128 (0 : UInt8)) 0 data).length = 128 := by rw [over_length (by simpa using hl)]; simp
  rw [over_get (by rw [hl1]; simp; omega), over_get (by simpa using hl)]
  simp only [List.length_replicate, List.getElem?_replicate]
  by_cases h1 : p ≤ i ∧ i < p + q
  · rw [if_pos h1, if_pos (by omega), if_pos (by omega)]
  · rw [if_neg h1, if_neg (by omega)]
    by_cases h2 : 8 * i < data.length
    · rw [if_pos h2, if_pos (by omega)]; congr 1; omega
    · rw [if_neg h2, if_neg (by omega), if_pos (by omega)]
theorem zero_len {data : List UInt8} {p q : Nat} (hl : data.length ≤ 128) (hpq : p + q ≤ 16) : (partS (unmapS (writeS (newS 16) 0 data) p q) 0 16).length = 128 :=
  partS_length (unmapS_wf (writeS_wf (s := newS 16) (newS_wf (by omega) (by omega)) (by show _ ≤ 8 * 16; omega)) (by show p + q ≤ 16; exact hpq)) (by show 0 + 16 ≤ 16; omega)
theorem zero_bit {data : List UInt8} {p q i : Nat} (hd : data.length % 8 = 0) (hl : data.length ≤ 128) (hpq : p + q ≤ 16) (hi : i < 16) :
    bit (unmapS (writeS (newS 16) 0 data) p q).m i = if p ≤ i ∧ i < p + q then false else decide (8 * i < data.length) := by
  show bit (turned (turned (List.replicate 2 0) 0 ((data.length / 8 : Nat) : Int) true) p q false) i = _
  have h0 := turned_bit (m := List.replicate 2 0) (lo := 0) (k := data.length / 8) (s := true) (by simp; omega) i
  rw [turned_bit (by rw [turned_length]; simp; omega)]
  by_cases h1 : p ≤ i ∧ i < p + q
  · rw [if_pos h1, if_pos h1]
  · rw [if_neg h1, if_neg h1]
    have h0' : bit (turned (List.replicate 2 0) 0 ((data.length / 8 : Nat) : Int) true) i = if 0 ≤ i ∧ i < 0 + data.length / 8 then true else bit (List.replicate 2 0) i := h0
    rw [h0']
    by_cases h2 : 8 * i < data.length
    · rw [if_pos (by omega)]; simp [h2]
    · rw [if_neg (by omega)]; rw [bit_zero]; simp [h2]
end Go.Sl.SpM
