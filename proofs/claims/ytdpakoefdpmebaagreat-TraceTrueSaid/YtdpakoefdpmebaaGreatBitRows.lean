/-
  Maps of bits: the next one, the rows of set ones. No program is named here.
-/
import Derived.Test.YtdpakoefdpmebaaGreatBitModel
namespace Go.Sl.BitM
open Go Go.Sl
set_option linter.unusedVariables false
/-- The first bit from 'a' on that is 's'. -/
def nx (m : List UInt8) (s : Bool) (a : Nat) : Option Nat := (List.range' a (8 * m.length - a)).find? (fun j => bit m j == s)
theorem nx_out {m : List UInt8} {s : Bool} {a : Nat} (h : 8 * m.length ≤ a) : nx m s a = none := by
  unfold nx
  rw [show 8 * m.length - a = 0 by omega]; rfl
theorem nx_hit {m : List UInt8} {s : Bool} {a : Nat} (h : a < 8 * m.length) (hb : bit m a = s) : nx m s a = some a := by
  unfold nx
  rw [show 8 * m.length - a = (8 * m.length - a - 1) + 1 by omega, List.range'_succ, List.find?_cons, hb]
  simp
theorem nx_miss {m : List UInt8} {s : Bool} {a : Nat} (h : a < 8 * m.length) (hb : ¬ bit m a = s) : nx m s a = nx m s (a + 1) := by
  unfold nx
  rw [show 8 * m.length - a = (8 * m.length - (a + 1)) + 1 by omega, List.range'_succ, List.find?_cons]
  rw [show (bit m a == s) = false by simpa using hb]
theorem nx_some {m : List UInt8} {s : Bool} {a b : Nat} (h : nx m s a = some b) : a ≤ b ∧ b < 8 * m.length ∧ bit m b = s ∧ ∀ j, a ≤ j → j < b → ¬ bit m j = s := by
  generalize hd : 8 * m.length - a = d
  induction d generalizing a with
  | zero => rw [nx_out (by omega)] at h; cases h
  | succ d ih =>
    by_cases hb : bit m a = s
    · rw [nx_hit (by omega) hb] at h
      cases h
      exact ⟨Nat.le_refl _, by omega, hb, fun j h1 h2 => by omega⟩
    · rw [nx_miss (by omega) hb] at h
      obtain ⟨h1, h2, h3, h4⟩ := ih h (by omega)
      refine ⟨by omega, h2, h3, fun j j1 j2 => ?_⟩
      by_cases hj : j = a
      · subst hj; exact hb
      · exact h4 j (by omega) j2
theorem nx_none {m : List UInt8} {s : Bool} {a : Nat} (h : nx m s a = none) : ∀ j, a ≤ j → j < 8 * m.length → ¬ bit m j = s := by
  intro j h1 h2 hb
  unfold nx at h
  rw [List.find?_eq_none] at h
  have := h j (by rw [List.mem_range'_1]; omega)
  simp [hb] at this
/-- All rows of set ones below 'e'. -/
structure Good (m : List UInt8) (R : List (Nat × Nat)) (e : Nat) : Prop where
  cover : ∀ j, j < e → (bit m j = true ↔ ∃ r ∈ R, r.1 ≤ j ∧ j < r.1 + r.2)
  pos : ∀ r ∈ R, 0 < r.2 ∧ r.1 + r.2 ≤ e
  apart : ∀ (i : Nat) r q, R[i]? = some r → R[i + 1]? = some q → r.1 + r.2 < q.1
  stop : R ≠ [] → bit m e = false
  few : R.length ≤ e
  le : e ≤ 8 * m.length
theorem Good.nil (m : List UInt8) : Good m [] 0 := ⟨fun j h => by omega, by simp, by simp, by simp, by simp, by omega⟩
theorem Good.add {m : List UInt8} {R : List (Nat × Nat)} {e a : Nat} (G : Good m R e) (h : nx m true e = some a) :
    Good m (R ++ [(a, (nx m false a).getD (8 * m.length) - a)]) ((nx m false a).getD (8 * m.length)) ∧ a < (nx m false a).getD (8 * m.length) := by
  obtain ⟨h1, h2, h3, h4⟩ := nx_some h
  have key : ∀ e', a < e' → e' ≤ 8 * m.length → (∀ j, a ≤ j → j < e' → bit m j = true) → bit m e' = false → Good m (R ++ [(a, e' - a)]) e' := by
    intro e' k1 k2 k3 k4
    have hpos : R ≠ [] → e < a := by
      intro hR
      have := G.stop hR
      rcases Nat.lt_or_ge e a with h' | h'
      · exact h'
      · obtain rfl : a = e := by omega
        rw [h3] at this; cases this
    refine ⟨fun j hj => ?_, fun r hr => ?_, fun i r q hr hq => ?_, fun _ => k4, ?_, k2⟩
    · by_cases hje : j < e
      · rw [G.cover j hje]
        constructor
        · rintro ⟨r, hr, hh⟩; exact ⟨r, List.mem_append_left _ hr, hh⟩
        · rintro ⟨r, hr, hh⟩
          rcases List.mem_append.1 hr with h' | h'
          · exact ⟨r, h', hh⟩
          · rw [List.mem_singleton.1 h'] at hh; simp at hh; omega
      · by_cases hja : a ≤ j
        · rw [k3 j hja hj]
          exact ⟨fun _ => ⟨(a, e' - a), List.mem_append_right _ (by simp), hja, by simp; omega⟩, fun _ => rfl⟩
        · have hb : ¬ bit m j = true := h4 j (by omega) (by omega)
          constructor
          · intro h'; exact absurd h' hb
          · rintro ⟨r, hr, hh⟩
            rcases List.mem_append.1 hr with h' | h'
            · have := (G.pos r h').2; omega
            · rw [List.mem_singleton.1 h'] at hh; simp at hh; omega
    · rcases List.mem_append.1 hr with h' | h'
      · have := G.pos r h'; omega
      · rw [List.mem_singleton.1 h']; simp; omega
    · rcases Nat.lt_or_ge (i + 1) R.length with hl | hl
      · rw [List.getElem?_append_left (by omega)] at hr
        rw [List.getElem?_append_left hl] at hq
        exact G.apart i r q hr hq
      · have hql := (List.getElem?_eq_some_iff.1 hq).1
        rw [List.length_append, List.length_singleton] at hql
        have hi : i + 1 = R.length := by omega
        rw [List.getElem?_append_right (by omega), hi, Nat.sub_self] at hq
        simp at hq
        rw [List.getElem?_append_left (by omega)] at hr
        have hm := List.mem_of_getElem? hr
        have h5 := (G.pos r hm).2
        have h6 := hpos (by rintro rfl; simp at hm)
        rw [← hq]
        show r.1 + r.2 < a
        omega
    · rw [List.length_append, List.length_singleton]; have := G.few; omega
  cases hn : nx m false a with
  | none =>
    have := nx_none hn
    simp only [Option.getD_none]
    exact ⟨key _ h2 (Nat.le_refl _) (fun j j1 j2 => by simpa using this j j1 j2) (bit_out (Nat.le_refl _)), h2⟩
  | some b =>
    obtain ⟨n1, n2, n3, n4⟩ := nx_some hn
    have hab : a < b := by
      rcases Nat.lt_or_ge a b with h' | h'
      · exact h'
      · obtain rfl : b = a := by omega
        rw [h3] at n3; cases n3
    simp only [Option.getD_some]
    exact ⟨key b hab (by omega) (fun j j1 j2 => by simpa using n4 j j1 j2) n3, hab⟩
/-- The rows of a map. -/
structure Rows (m : List UInt8) (R : List (Nat × Nat)) : Prop where
  cover : ∀ j, (bit m j = true ↔ ∃ r ∈ R, r.1 ≤ j ∧ j < r.1 + r.2)
  pos : ∀ r ∈ R, 0 < r.2 ∧ r.1 + r.2 ≤ 8 * m.length
  apart : ∀ (i : Nat) r q, R[i]? = some r → R[i + 1]? = some q → r.1 + r.2 < q.1
  few : R.length ≤ 8 * m.length
theorem Good.rows {m : List UInt8} {R : List (Nat × Nat)} {e : Nat} (G : Good m R e) (h : nx m true e = none) : Rows m R := by
  have hn := nx_none h
  refine ⟨fun j => ?_, fun r hr => ⟨(G.pos r hr).1, by have := (G.pos r hr).2; have := G.le; omega⟩, G.apart, by have := G.few; have := G.le; omega⟩
  by_cases hj : j < e
  · exact G.cover j hj
  · constructor
    · intro hb; exact absurd hb (hn j (by omega) (bit_lt hb))
    · rintro ⟨r, hr, hh⟩; have := (G.pos r hr).2; omega
theorem Rows.before {m : List UInt8} {R : List (Nat × Nat)} (G : Rows m R) {i : Nat} {q : Nat × Nat} (hq : R[i]? = some q) : ∀ r ∈ R.take i, r.1 + r.2 < q.1 := by
  have key : ∀ (d k : Nat) r q, R[k]? = some r → R[k + d + 1]? = some q → r.1 + r.2 < q.1 := by
    intro d
    induction d with
    | zero => intro k r q h1 h2; exact G.apart k r q h1 h2
    | succ d ih =>
      intro k r q h1 h2
      have hl := (List.getElem?_eq_some_iff.1 h2).1
      obtain ⟨p, hp⟩ : ∃ p, R[k + d + 1]? = some p := ⟨R[k + d + 1]'(by omega), by simp⟩
      have h3 := ih k r p h1 hp
      have h4 := G.apart (k + d + 1) p q hp h2
      omega
  intro r hr
  obtain ⟨k, hk⟩ := List.getElem?_of_mem hr
  rw [List.getElem?_take] at hk
  split at hk
  · rename_i hki
    exact key (i - k - 1) k r q hk (by rw [show k + (i - k - 1) + 1 = i by omega]; exact hq)
  · cases hk
def nxV (o : Option Nat) : Value := .tuple #[.int .i64 ((o.getD 0 : Nat) : Int), .bool o.isSome]
/-- Two maps put together, byte by byte. -/
def eachB (g : UInt8 → UInt8 → UInt8) (a b : List UInt8) (k : Nat) : List UInt8 := (List.range k).map (fun i => g (a.getD i 0) (b.getD i 0))
def eachT (g : UInt8 → UInt8 → UInt8) (a b : List UInt8) (M k : Nat) : List UInt8 := eachB g a b k ++ List.replicate (M - k) 0
theorem eachT_zero (g : UInt8 → UInt8 → UInt8) (a b : List UInt8) (M : Nat) : eachT g a b M 0 = List.replicate M 0 := by simp [eachT, eachB]
theorem eachT_full (g : UInt8 → UInt8 → UInt8) (a b : List UInt8) (M : Nat) : eachT g a b M M = eachB g a b M := by simp [eachT]
theorem eachT_set {g : UInt8 → UInt8 → UInt8} {a b : List UInt8} {M k : Nat} (h : k < M) : (bytesV (eachT g a b M k)).set k (.int .u8 ((g (a.getD k 0) (b.getD k 0)).toNat : Int)) = bytesV (eachT g a b M (k + 1)) := by
  unfold bytesV
  rw [show Value.int .u8 ((g (a.getD k 0) (b.getD k 0)).toNat : Int) = byteV (g (a.getD k 0) (b.getD k 0)) from rfl, ← List.map_set]
  congr 1
  unfold eachT eachB
  rw [show M - k = (M - (k + 1)) + 1 by omega, List.replicate_succ, List.set_append, if_neg (by simp)]
  simp [List.range_succ]
/-- The rows from 'e' on. -/
def rowsF (m : List UInt8) : Nat → Nat → List (Nat × Nat)
  | 0, _ => []
  | k + 1, e => match nx m true e with
    | none => []
    | some a => (a, (nx m false a).getD (8 * m.length) - a) :: rowsF m k ((nx m false a).getD (8 * m.length))
def rowsOf (m : List UInt8) : List (Nat × Nat) := rowsF m (8 * m.length + 1) 0
theorem rowsF_none {m : List UInt8} {e : Nat} (h : nx m true e = none) (k : Nat) : rowsF m k e = [] := by
  cases k with
  | zero => rfl
  | succ k => unfold rowsF; rw [h]
theorem rowsF_some {m : List UInt8} {e a : Nat} (h : nx m true e = some a) (k : Nat) : rowsF m (k + 1) e = (a, (nx m false a).getD (8 * m.length) - a) :: rowsF m k ((nx m false a).getD (8 * m.length)) := by
  conv => { lhs; unfold rowsF }
  rw [h]
/-- What is known along the way. -/
def Sofar (m : List UInt8) (R : List (Nat × Nat)) (e : Nat) : Prop := ∃ k, rowsOf m = R ++ rowsF m k e ∧ 8 * m.length + 1 ≤ k + e
theorem Sofar.nil (m : List UInt8) : Sofar m [] 0 := ⟨8 * m.length + 1, rfl, by omega⟩
theorem Sofar.step {m : List UInt8} {R : List (Nat × Nat)} {e a : Nat} (S : Sofar m R e) (h : nx m true e = some a) (hlt : a < (nx m false a).getD (8 * m.length)) :
    Sofar m (R ++ [(a, (nx m false a).getD (8 * m.length) - a)]) ((nx m false a).getD (8 * m.length)) := by
  obtain ⟨k, h1, h2⟩ := S
  obtain ⟨h3, h4, _, _⟩ := nx_some h
  obtain ⟨k, rfl⟩ : ∃ j, k = j + 1 := ⟨k - 1, by omega⟩
  refine ⟨k, ?_, by omega⟩
  rw [h1, rowsF_some h, List.append_assoc]
  rfl
theorem Sofar.fin {m : List UInt8} {R : List (Nat × Nat)} {e : Nat} (S : Sofar m R e) (h : nx m true e = none) : R = rowsOf m := by
  obtain ⟨k, h1, _⟩ := S
  rw [h1, rowsF_none h, List.append_nil]
theorem nx_cases {m : List UInt8} {s : Bool} {a : Nat} {v : Value} (h : v = nxV (nx m s a)) :
    (∃ b, nx m s a = some b ∧ v = .tuple #[.int .i64 (b : Int), .bool true]) ∨ (nx m s a = none ∧ v = .tuple #[.int .i64 0, .bool false]) := by
  cases hn : nx m s a with
  | none => rw [hn] at h; exact .inr ⟨rfl, h⟩
  | some b => rw [hn] at h; exact .inl ⟨b, rfl, h⟩
theorem nx_flag (o : Option Nat) : (o.isSome = true → o = some (o.getD 0)) ∧ (o.isSome = false → o = none) := by cases o <;> simp
def rowc (r : Nat × Nat) : List Value := [.int .i64 (r.1 : Int), .int .i64 (r.2 : Int)]
theorem rowc_length (r : Nat × Nat) : (rowc r).length = 2 := rfl
theorem newB_8 {n : Nat} (h : n ≤ 100000) : newB ((8 * n : Nat) : Int) = List.replicate n 0 := by
  unfold newB
  by_cases h0 : n = 0
  · subst h0; rfl
  · rw [if_neg (by omega), Int.toNat_natCast, show (8 * n + 7) / 8 = n by omega]
theorem bit_zero (n j : Nat) : bit (List.replicate n 0) j = false := by
  unfold bit
  rw [List.getD_eq_getElem?_getD, List.getElem?_replicate]
  split <;> simp
theorem cnt_none {m : List UInt8} (h : ∀ j, bit m j = false) (k : Nat) : cnt m k = 0 := by
  induction k with
  | zero => rfl
  | succ k ih => rw [cnt_succ, ih, h k]; rfl
/-- One row more. -/
theorem rows_step {m xs : List UInt8} {Rs : List (Nat × Nat)} {i : Nat} {q : Nat × Nat} (hR : Rows m Rs) (hl : xs.length = m.length) (hx : ∀ j, (bit xs j = true ↔ ∃ r ∈ Rs.take i, r.1 ≤ j ∧ j < r.1 + r.2)) (hq : Rs[i]? = some q) :
    (∀ j, (bit (turned xs q.1 q.2 true) j = true ↔ ∃ r ∈ Rs.take (i + 1), r.1 ≤ j ∧ j < r.1 + r.2)) ∧ cnt (turned xs q.1 q.2 true) (8 * m.length) = cnt xs (8 * m.length) + turns xs q.1 q.2 true := by
  obtain ⟨hil, he⟩ := List.getElem?_eq_some_iff.1 hq
  have hp := hR.pos q (List.mem_of_getElem? hq)
  have ht : Rs.take (i + 1) = Rs.take i ++ [q] := by rw [List.take_succ_eq_append_getElem hil, he]
  refine ⟨fun j => ?_, ?_⟩
  · rw [turned_bit (by omega), ht]
    by_cases hj : q.1 ≤ j ∧ j < q.1 + q.2
    · rw [if_pos hj]
      exact ⟨fun _ => ⟨q, List.mem_append_right _ (by simp), hj⟩, fun _ => rfl⟩
    · rw [if_neg hj, hx j]
      constructor
      · rintro ⟨r, hr, hh⟩; exact ⟨r, List.mem_append_left _ hr, hh⟩
      · rintro ⟨r, hr, hh⟩
        rcases List.mem_append.1 hr with h' | h'
        · exact ⟨r, h', hh⟩
        · rw [List.mem_singleton.1 h'] at hh; exact absurd hh hj
  · unfold turned turns turnK
    rw [if_neg (by omega), Int.toNat_natCast, Int.toNat_natCast, show min q.2 (8 * xs.length - q.1) = q.2 by omega]
    exact turnN_cnt (by omega) (by omega)
theorem rows_full {m xs : List UInt8} {Rs : List (Nat × Nat)} (hR : Rows m Rs) (hl : xs.length = m.length) (hx : ∀ j, (bit xs j = true ↔ ∃ r ∈ Rs.take Rs.length, r.1 ≤ j ∧ j < r.1 + r.2)) : xs = m := by
  apply map_ext hl
  intro j _
  rw [List.take_length] at hx
  rw [Bool.eq_iff_iff, hx j, hR.cover j]
end Go.Sl.BitM
