/-
  Maps of bits as plain data. No program is named here.
-/
import Derived.Test.YtdpakoefdpmebaaGreatSlB
namespace Go.Sl.BitM
open Go Go.Sl
set_option linter.unusedVariables false

def bit (m : List UInt8) (i : Nat) : Bool := (m.getD (i / 8) 0).toNat.testBit (i % 8)
theorem getD_some {m : List UInt8} {k : Nat} {x : UInt8} (h : m[k]? = some x) : m.getD k 0 = x := by rw [List.getD_eq_getElem?_getD, h]; rfl
theorem bit_out {m : List UInt8} {i : Nat} (h : 8 * m.length ≤ i) : bit m i = false := by
  unfold bit
  rw [List.getD_eq_getElem?_getD, List.getElem?_eq_none (by omega)]
  simp
theorem bit_lt {m : List UInt8} {i : Nat} (h : bit m i = true) : i < 8 * m.length := by
  rcases Nat.lt_or_ge i (8 * m.length) with h' | h'
  · exact h'
  · rw [bit_out h'] at h; cases h
theorem byte_ext {x y : UInt8} (h : ∀ j, j < 8 → x.toNat.testBit j = y.toNat.testBit j) : x = y := by
  apply UInt8.toNat_inj.1
  apply Nat.eq_of_testBit_eq
  intro j
  rcases Nat.lt_or_ge j 8 with hj | hj
  · exact h j hj
  · rw [Nat.testBit_lt_two_pow (Nat.lt_of_lt_of_le x.toNat_lt (Nat.pow_le_pow_right (by omega) hj)), Nat.testBit_lt_two_pow (Nat.lt_of_lt_of_le y.toNat_lt (Nat.pow_le_pow_right (by omega) hj))]
theorem map_ext {a b : List UInt8} (hl : a.length = b.length) (h : ∀ i, i < 8 * a.length → bit a i = bit b i) : a = b := by
  apply List.ext_getElem hl
  intro k h1 h2
  apply byte_ext
  intro j hj
  have := h (8 * k + j) (by omega)
  unfold bit at this
  rw [show (8 * k + j) / 8 = k by omega, show (8 * k + j) % 8 = j by omega] at this
  rw [getD_some (x := a[k]) (by simp [h1]), getD_some (x := b[k]) (by simp [h2])] at this
  exact this

def hasI (m : List UInt8) (i : Int) : Bool := decide (0 ≤ i) && bit m i.toNat
theorem hasI_nat (m : List UInt8) (i : Nat) : hasI m (i : Int) = bit m i := by unfold hasI; simp
theorem hasI_out {m : List UInt8} {i : Int} (h : ¬ (0 ≤ i ∧ i < 8 * (m.length : Int))) : hasI m i = false := by
  unfold hasI
  by_cases h0 : 0 ≤ i
  · rw [bit_out (by omega)]; simp
  · simp [h0]
theorem bit_at {m : List UInt8} {i : Nat} {x : UInt8} (h : m[i / 8]? = some x) : bit m i = decide (x.toNat / 2 ^ (i % 8) % 2 = 1) := by
  unfold bit
  rw [getD_some h, Nat.testBit_eq_decide_div_mod_eq]
def newB (n : Int) : List UInt8 := if n < 1 ∨ 1048576 < n then [] else List.replicate ((n.toNat + 7) / 8) 0
/-! ### Turning one -/
def flip (m : List UInt8) (i : Nat) : List UInt8 := m.set (i / 8) (UInt8.ofNat ((m.getD (i / 8) 0).toNat ^^^ 2 ^ (i % 8)))
theorem flip_length (m : List UInt8) (i : Nat) : (flip m i).length = m.length := by simp [flip]
theorem bytesV_flip {m : List UInt8} {i : Nat} {x : UInt8} (h : m[i / 8]? = some x) : (bytesV m).set (i / 8) (.int .u8 ((x.toNat ^^^ (1 * 2 ^ (i % 8)) : Nat) : Int)) = bytesV (flip m i) := by
  unfold flip
  rw [getD_some h, Nat.one_mul]
  unfold bytesV
  rw [List.map_set]
  congr 1
  have hx : x.toNat ^^^ 2 ^ (i % 8) < 256 := Nat.xor_lt_two_pow (n := 8) x.toNat_lt (Nat.lt_of_le_of_lt (Nat.pow_le_pow_right (by omega) (show i % 8 ≤ 7 by omega)) (by omega))
  show Value.int .u8 _ = Value.int .u8 (((UInt8.ofNat _).toNat : Nat) : Int)
  rw [UInt8.toNat_ofNat', Nat.mod_eq_of_lt hx]
theorem xor_lt (x : UInt8) {k : Nat} (hk : k < 8) : x.toNat ^^^ 2 ^ k < 256 :=
  Nat.xor_lt_two_pow (n := 8) x.toNat_lt (Nat.lt_of_le_of_lt (Nat.pow_le_pow_right (by omega) (show k ≤ 7 by omega)) (by omega))
theorem bit_flip {m : List UInt8} {i : Nat} (hi : i < 8 * m.length) (j : Nat) : bit (flip m i) j = if j = i then !bit m i else bit m j := by
  unfold bit flip
  have hx := xor_lt (m.getD (i / 8) 0) (show i % 8 < 8 by omega)
  by_cases hb : j / 8 = i / 8
  · rw [hb, List.getD_eq_getElem?_getD, List.getElem?_set_self (by omega)]
    show (UInt8.ofNat _).toNat.testBit (j % 8) = _
    rw [UInt8.toNat_ofNat', Nat.mod_eq_of_lt hx, Nat.testBit_xor, Nat.testBit_two_pow]
    by_cases hj : j = i
    · subst hj; rw [if_pos rfl]; simp
    · rw [if_neg hj, show decide (i % 8 = j % 8) = false by simp; omega]; simp
  · rw [List.getD_eq_getElem?_getD, List.getElem?_set_ne (fun h => hb h.symm), ← List.getD_eq_getElem?_getD, if_neg (fun h => hb (by rw [h]))]

/-! ### Turning a row -/
/-- The first k bits from 'lo' on made 's': the map, how many were turned. -/
def turnN (m : List UInt8) (lo : Nat) (s : Bool) : Nat → List UInt8 × Nat
  | 0 => (m, 0)
  | k + 1 => if bit (turnN m lo s k).1 (lo + k) = s then turnN m lo s k else (flip (turnN m lo s k).1 (lo + k), (turnN m lo s k).2 + 1)
theorem turnN_length (m : List UInt8) (lo : Nat) (s : Bool) (k : Nat) : (turnN m lo s k).1.length = m.length := by
  induction k with
  | zero => rfl
  | succ k ih => unfold turnN; split <;> simp [ih, flip_length]
theorem turnN_bit {m : List UInt8} {lo k : Nat} {s : Bool} (h : lo + k ≤ 8 * m.length) (j : Nat) : bit (turnN m lo s k).1 j = if lo ≤ j ∧ j < lo + k then s else bit m j := by
  induction k with
  | zero => rw [if_neg (by omega)]; rfl
  | succ k ih =>
    have ih := ih (by omega)
    unfold turnN
    split
    · rename_i hs
      rw [ih]
      by_cases hj : j = lo + k
      · subst hj
        rw [ih, if_neg (by omega)] at hs
        rw [if_neg (by omega), if_pos (by omega), hs]
      · by_cases h2 : lo ≤ j ∧ j < lo + k
        · rw [if_pos h2, if_pos (by omega)]
        · rw [if_neg h2, if_neg (by omega)]
    · rename_i hs
      show bit (flip _ _) j = _
      rw [bit_flip (by rw [turnN_length]; omega)]
      by_cases hj : j = lo + k
      · subst hj
        rw [if_pos rfl, if_pos (by omega)]
        cases s <;> simp_all
      · rw [if_neg hj, ih]
        by_cases h2 : lo ≤ j ∧ j < lo + k
        · rw [if_pos h2, if_pos (by omega)]
        · rw [if_neg h2, if_neg (by omega)]
theorem turnN_le (m : List UInt8) (lo : Nat) (s : Bool) (k : Nat) : (turnN m lo s k).2 ≤ k := by
  induction k with
  | zero => exact Nat.le_refl _
  | succ k ih =>
    unfold turnN
    split
    · exact Nat.le_succ_of_le ih
    · exact Nat.succ_le_succ ih
/-- How many bits of a row are looked at. -/
def turnK (m : List UInt8) (fr n : Int) : Nat := if fr < 0 ∨ n < 0 ∨ ((8 * m.length : Nat) : Int) ≤ fr then 0 else min n.toNat (8 * m.length - fr.toNat)
def turned (m : List UInt8) (fr n : Int) (s : Bool) : List UInt8 := (turnN m fr.toNat s (turnK m fr n)).1
def turns (m : List UInt8) (fr n : Int) (s : Bool) : Nat := (turnN m fr.toNat s (turnK m fr n)).2
theorem turned_length (m : List UInt8) (fr n : Int) (s : Bool) : (turned m fr n s).length = m.length := turnN_length ..
theorem turned_bit {m : List UInt8} {lo k : Nat} {s : Bool} (h : lo + k ≤ 8 * m.length) (j : Nat) : bit (turned m lo k s) j = if lo ≤ j ∧ j < lo + k then s else bit m j := by
  unfold turned turnK
  by_cases h0 : 8 * m.length ≤ lo
  · rw [if_pos (by omega)]
    rw [if_neg (by omega)]; rfl
  · rw [if_neg (by omega), Int.toNat_natCast, Int.toNat_natCast, show min k (8 * m.length - lo) = k by omega]
    exact turnN_bit h j

/-! ### Counting -/
def cnt (m : List UInt8) (k : Nat) : Nat := ((List.range k).filter (bit m)).length
theorem cnt_zero (m : List UInt8) : cnt m 0 = 0 := rfl
theorem cnt_succ (m : List UInt8) (k : Nat) : cnt m (k + 1) = cnt m k + if bit m k = true then 1 else 0 := by
  unfold cnt
  rw [List.range_succ, List.filter_append, List.length_append]
  by_cases h : bit m k = true
  · rw [if_pos h]; simp [h]
  · rw [if_neg h]; simp [h]
theorem cnt_le (m : List UInt8) (k : Nat) : cnt m k ≤ k := by
  unfold cnt
  have := List.length_filter_le (bit m) (List.range k)
  simpa using this
theorem cnt_flip {m : List UInt8} {i : Nat} (hi : i < 8 * m.length) (h0 : bit m i = false) (k : Nat) : cnt (flip m i) k = cnt m k + if i < k then 1 else 0 := by
  induction k with
  | zero => rfl
  | succ k ih =>
    rw [cnt_succ, cnt_succ, ih, bit_flip hi]
    by_cases h1 : k = i
    · subst h1; simp [h0]
    · rw [if_neg h1]
      by_cases h2 : i < k
      · rw [if_pos h2, if_pos (show i < k + 1 by omega)]; omega
      · rw [if_neg h2, if_neg (show ¬ i < k + 1 by omega)]; omega
/-- What is set is counted. -/
theorem turnN_cnt {m : List UInt8} {lo k N : Nat} (h : lo + k ≤ 8 * m.length) (hN : lo + k ≤ N) : cnt (turnN m lo true k).1 N = cnt m N + (turnN m lo true k).2 := by
  induction k with
  | zero => rfl
  | succ k ih =>
    have ih := ih (by omega) (by omega)
    unfold turnN
    split
    · exact ih
    · rename_i hb
      show cnt (flip _ _) N = _
      rw [cnt_flip (by rw [turnN_length]; omega) (by simpa using hb), ih, if_pos (by omega)]
      show _ = cnt m N + ((turnN m lo true k).2 + 1)
      omega
/-- How many bits of a byte are set. -/
def popc (c : Nat) : Nat := ((List.range 8).filter (fun j => c.testBit j)).length
theorem popc_zero : popc 0 = 0 := by decide
theorem popc_step : ∀ c : Fin 256, c.val ≠ 0 → popc c.val = popc (c.val &&& (c.val - 1)) + 1 := by decide +kernel
theorem popc_and {c : Nat} (hc : c < 256) (h0 : c ≠ 0) : popc c = popc (c &&& (c - 1)) + 1 := popc_step ⟨c, hc⟩ h0
theorem popc_le (c : Nat) : popc c ≤ 8 := by
  unfold popc
  have := List.length_filter_le (fun j => c.testBit j) (List.range 8)
  simpa using this
theorem cnt_byte {m : List UInt8} {k : Nat} {x : UInt8} (h : m[k]? = some x) : cnt m (8 * (k + 1)) = cnt m (8 * k) + popc x.toNat := by
  have e : ∀ j, j < 8 → bit m (8 * k + j) = x.toNat.testBit j := by
    intro j hj
    unfold bit
    rw [show (8 * k + j) / 8 = k by omega, show (8 * k + j) % 8 = j by omega, getD_some h]
  have p : popc x.toNat = ((List.range 8).filter (fun j => bit m (8 * k + j))).length := by
    unfold popc
    congr 1
    apply List.filter_congr
    intro j hj
    exact (e j (by simpa using hj)).symm
  rw [p]
  show cnt m (8 * k + 8) = _
  simp only [cnt_succ, List.range_succ, List.range_zero, List.nil_append, List.filter_append, List.length_append, List.filter_cons, List.filter_nil, Nat.add_zero, show 8 * k + 8 = 8 * k + 7 + 1 from rfl, show 8 * k + 7 = 8 * k + 6 + 1 from rfl, show 8 * k + 6 = 8 * k + 5 + 1 from rfl, show 8 * k + 5 = 8 * k + 4 + 1 from rfl, show 8 * k + 4 = 8 * k + 3 + 1 from rfl, show 8 * k + 3 = 8 * k + 2 + 1 from rfl, show 8 * k + 2 = 8 * k + 1 + 1 from rfl]
  repeat' split
  all_goals simp_all
end Go.Sl.BitM
