/-
  A number by its bytes; the blocks by theirs; blocks written at once and one by one. No program is named here.
-/
import Derived.Test.YtdpakoefdpmebaaSpaceMore
import Derived.Test.YtdpakoefdpmebaaSlB
namespace Go.Sl.SpM
open Go Go.Sl Go.Sl.BitM
set_option linter.unusedVariables false
def putK (v n k : Nat) : List UInt8 := (List.range k).map fun (q : Nat) => UInt8.ofNat (v / 2 ^ (8 * (n - 1 - q)))
theorem putK_length (v n k : Nat) : (putK v n k).length = k := by simp [putK]
theorem putK_succ (v n k : Nat) : putK v n (k + 1) = putK v n k ++ [UInt8.ofNat (v / 2 ^ (8 * (n - 1 - k)))] := by simp [putK, List.range_succ]
/-- Bits of places that are. -/
def capS (s : Sp) : Prop := ∀ j, bit s.m j = true → j < s.N
theorem cap_new {n : Nat} : capS (newS n) := fun j h => by
  have h2 : bit (List.replicate ((n + 7) / 8) 0) j = true := h
  rw [bit_zero] at h2; cases h2
theorem cap_write {s : Sp} {p : Nat} {bs : List UInt8} (hw : wfS s) (h : capS s) (hb : p + bs.length / 8 ≤ s.N) : capS (writeS s p bs) := fun j hj => by
  have hj2 : bit (turned s.m p ((bs.length / 8 : Nat) : Int) true) j = true := hj
  obtain ⟨h1, h2, h3, h4⟩ := hw
  rw [turned_bit (by omega)] at hj2
  split at hj2
  · show j < s.N; omega
  · exact h j hj2
theorem rows_cap {s : Sp} {R : List (Nat × Nat)} (h : capS s) (hR : BitM.Rows s.m R) {r : Nat × Nat} (hr : r ∈ R) : r.1 + r.2 ≤ s.N := by
  have hp := (hR.pos r hr).1
  have := h (r.1 + r.2 - 1) ((hR.cover _).2 ⟨r, hr, by omega, by omega⟩)
  omega
def encK (s : Sp) (k : Nat) : List UInt8 := putK s.N 2 2 ++ s.m ++ ((rowsOf s.m).take k).flatMap fun r => partS s r.1 r.2
def encS (s : Sp) : List UInt8 := encK s (rowsOf s.m).length
theorem encK_succ {s : Sp} {k : Nat} {r : Nat × Nat} (h : (rowsOf s.m)[k]? = some r) : encK s (k + 1) = encK s k ++ partS s r.1 r.2 := by
  unfold encK
  rw [List.take_add_one, h]
  simp
theorem flat_le {s : Sp} (hw : wfS s) : ∀ (l : List (Nat × Nat)), (∀ r ∈ l, r.1 + r.2 ≤ s.N) → (l.flatMap fun r => partS s r.1 r.2).length ≤ 8192 * l.length := by
  intro l
  induction l with
  | nil => intro _; simp
  | cons r l ih =>
    intro h
    rw [List.flatMap_cons, List.length_append, List.length_cons, partS_length hw (h r (by simp))]
    have := ih (fun q hq => h q (by simp [hq]))
    have := h r (by simp)
    have := hw.2.2.1
    omega
theorem encK_le {s : Sp} (hw : wfS s) (hc : capS s) (hR : BitM.Rows s.m (rowsOf s.m)) (k : Nat) : (encK s k).length ≤ 10000000000 := by
  unfold encK
  rw [List.length_append, List.length_append, putK_length]
  have h1 := flat_le hw ((rowsOf s.m).take k) (fun r hr => rows_cap hc hR (List.mem_of_mem_take hr))
  have h2 : ((rowsOf s.m).take k).length ≤ 8 * s.m.length := by have := hR.few; rw [List.length_take]; omega
  obtain ⟨_, _, h3, h4⟩ := hw
  omega
/-- Blocks written one by one. -/
def wrK (s : Sp) (p : Nat) (data : List UInt8) : Nat → Sp
  | 0 => s
  | k + 1 => writeS (wrK s p data k) (p + k) ((data.drop (8 * k)).take 8)
theorem wrK_N (s : Sp) (p : Nat) (data : List UInt8) : ∀ k, (wrK s p data k).N = s.N := by
  intro k
  induction k with
  | zero => rfl
  | succ k ih => exact ih
theorem wrK_wf {s : Sp} {p : Nat} {data : List UInt8} (hw : wfS s) (hc : capS s) : ∀ k, 8 * k ≤ data.length → p + k ≤ s.N → wfS (wrK s p data k) ∧ capS (wrK s p data k) := by
  intro k
  induction k with
  | zero => intro _ _; exact ⟨hw, hc⟩
  | succ k ih =>
    intro h1 h2
    obtain ⟨h3, h4⟩ := ih (by omega) (by omega)
    have hl : ((data.drop (8 * k)).take 8).length = 8 := by rw [List.length_take, List.length_drop]; omega
    have hN := wrK_N s p data k
    exact ⟨writeS_wf h3 (by rw [hl, hN]; omega), cap_write h3 h4 (by rw [hl, hN]; omega)⟩
theorem wrK_eq {s : Sp} {p : Nat} {data : List UInt8} (hw : wfS s) (hc : capS s) : ∀ k, 8 * k ≤ data.length → p + k ≤ s.N → wrK s p data k = writeS s p (data.take (8 * k)) := by
  intro k
  induction k with
  | zero =>
    intro _ _
    show s = writeS s p (data.take 0)
    unfold writeS
    simp only [List.take_zero, over_nil]
    have : turned s.m (p : Int) (((([] : List UInt8).length / 8 : Nat)) : Int) true = s.m := map_ext (turned_length ..) fun j hj => by
      obtain ⟨_, _, _, h4⟩ := hw
      have e := turned_bit (m := s.m) (lo := p) (k := 0) (s := true) (by omega) j
      have e2 : bit (turned s.m (p : Int) ((([] : List UInt8).length / 8 : Nat) : Int) true) j = if p ≤ j ∧ j < p + 0 then true else bit s.m j := e
      rw [e2, if_neg (by omega)]
    rw [this]
  | succ k ih =>
    intro h1 h2
    have e0 := ih (by omega) (by omega)
    obtain ⟨hd, h1N, hN, hm⟩ := hw
    have hl : ((data.drop (8 * k)).take 8).length = 8 := by rw [List.length_take, List.length_drop]; omega
    have hlk : (data.take (8 * k)).length = 8 * k := by rw [List.length_take]; omega
    have hlk1 : (data.take (8 * (k + 1))).length = 8 * (k + 1) := by rw [List.length_take]; omega
    show writeS (wrK s p data k) (p + k) _ = _
    rw [e0]
    have hdd : over (over s.d (8 * p) (data.take (8 * k))) (8 * (p + k)) ((data.drop (8 * k)).take 8) = over s.d (8 * p) (data.take (8 * (k + 1))) := by
      apply List.ext_getElem?
      intro j
      have ho : (over s.d (8 * p) (data.take (8 * k))).length = 8 * s.N := by rw [over_length (by rw [hlk]; omega)]; exact hd
      rw [over_get (by rw [ho, hl]; omega), over_get (by rw [hlk]; omega), over_get (by rw [hlk1]; omega), hl, hlk, hlk1]
      by_cases c1 : 8 * (p + k) ≤ j ∧ j < 8 * (p + k) + 8
      · rw [if_pos c1, if_pos (by omega), List.getElem?_take, if_pos (by omega), List.getElem?_drop, List.getElem?_take, if_pos (by omega)]
        congr 1; omega
      · rw [if_neg c1]
        by_cases c2 : 8 * p ≤ j ∧ j < 8 * p + 8 * k
        · rw [if_pos c2, if_pos (by omega), List.getElem?_take, if_pos (by omega), List.getElem?_take, if_pos (by omega)]
        · rw [if_neg c2, if_neg (by omega)]
    have hmm : turned (turned s.m (p : Int) (((data.take (8 * k)).length / 8 : Nat) : Int) true) ((p + k : Nat) : Int) ((((data.drop (8 * k)).take 8).length / 8 : Nat) : Int) true = turned s.m (p : Int) (((data.take (8 * (k + 1))).length / 8 : Nat) : Int) true := by
      apply map_ext (by rw [turned_length, turned_length, turned_length])
      intro j _
      rw [hl, hlk, hlk1]
      rw [turned_bit (m := turned s.m (p : Int) ((8 * k / 8 : Nat) : Int) true) (lo := p + k) (k := 8 / 8) (by rw [turned_length]; omega), turned_bit (by omega), turned_bit (by omega)]
      by_cases c1 : p + k ≤ j ∧ j < p + k + 8 / 8
      · rw [if_pos c1, if_pos (by omega)]
      · rw [if_neg c1]
        by_cases c2 : p ≤ j ∧ j < p + 8 * k / 8
        · rw [if_pos c2, if_pos (by omega)]
        · rw [if_neg c2, if_neg (by omega)]
    show (⟨s.N, over (over s.d (8 * p) (data.take (8 * k))) (8 * (p + k)) ((data.drop (8 * k)).take 8), turned (turned s.m (p : Int) (((data.take (8 * k)).length / 8 : Nat) : Int) true) ((p + k : Nat) : Int) ((((data.drop (8 * k)).take 8).length / 8 : Nat) : Int) true⟩ : Sp) = ⟨s.N, over s.d (8 * p) (data.take (8 * (k + 1))), turned s.m (p : Int) (((data.take (8 * (k + 1))).length / 8 : Nat) : Int) true⟩
    rw [hdd, hmm]
theorem parts_app {s : Sp} {p a b : Nat} (hw : wfS s) (h : p + a + b ≤ s.N) : partS s p a ++ partS s (p + a) b = partS s p (a + b) := by
  unfold partS
  rw [show 8 * (a + b) = 8 * a + 8 * b by omega, List.take_add, List.drop_drop, show 8 * (p + a) = 8 * p + 8 * a by omega]
end Go.Sl.SpM
