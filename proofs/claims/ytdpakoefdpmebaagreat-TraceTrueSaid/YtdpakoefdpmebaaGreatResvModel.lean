/-
  The hosts' keys and who holds the reservation, as plain data. No program is named here.
-/
import Derived.Test.YtdpakoefdpmebaaGreatSlB
namespace Go.Sl.RsM
open Go Go.Sl
set_option linter.unusedVariables false
set_option linter.unusedSimpArgs false
structure Tb where
  K : Nat → Int
  hold : Int
  typ : Int
  gen : Int
def Tb.cells (t : Tb) : List Value := [.int .u64 (t.K 0), .int .u64 (t.K 1), .int .u64 (t.K 2), .int .u64 (t.K 3), .int .u64 (t.K 4), .int .u64 (t.K 5), .int .u64 (t.K 6), .int .u64 (t.K 7), .int .i64 t.hold, .int .i64 t.typ, .int .u32 t.gen]
def keysV (K : Nat → Int) : List Value := [.int .u64 (K 0), .int .u64 (K 1), .int .u64 (K 2), .int .u64 (K 3), .int .u64 (K 4), .int .u64 (K 5), .int .u64 (K 6), .int .u64 (K 7)]
theorem cells_key {t : Tb} {i : Nat} (h : i < 8) : t.cells[i]? = some (.int .u64 (t.K i)) := by
  match i, h with
  | 0, _ | 1, _ | 2, _ | 3, _ | 4, _ | 5, _ | 6, _ | 7, _ => rfl
theorem keysV_key {K : Nat → Int} {i : Nat} (h : i < 8) : (keysV K)[i]? = some (.int .u64 (K i)) := by
  match i, h with
  | 0, _ | 1, _ | 2, _ | 3, _ | 4, _ | 5, _ | 6, _ | 7, _ => rfl
def Tb.put (t : Tb) (i : Nat) (x : Int) : Tb := { t with K := fun j => if j = i then x else t.K j }
theorem cells_put {t : Tb} {i : Nat} {x : Int} (h : i < 8) : t.cells.set i (.int .u64 x) = (t.put i x).cells := by
  match i, h with
  | 0, _ | 1, _ | 2, _ | 3, _ | 4, _ | 5, _ | 6, _ | 7, _ => simp [Tb.cells, Tb.put]
def rep (s k c : Int) : Value := .agg #[.int .i64 s, .int .i64 k, .int .i64 c, .slice none 0 0, .int .i64 0]
def hostB (h : Int) : Bool := decide (0 ≤ h) && decide (h < 8)
theorem hostB_iff {h : Int} : hostB h = true ↔ 0 ≤ h ∧ h < 8 := by simp [hostB]
theorem hostB_no {h : Int} : hostB h = false ↔ ¬ (0 ≤ h ∧ h < 8) := by rw [← Bool.not_eq_true, hostB_iff]
def typedB (y : Int) : Bool := decide (y = 1) || (decide (y = 3) || (decide (y = 5) || decide (y = 6)))
theorem typedB_iff {y : Int} : typedB y = true ↔ y = 1 ∨ y = 3 ∨ y = 5 ∨ y = 6 := by simp [typedB]
theorem typedB_no {y : Int} : typedB y = false ↔ ¬ (y = 1 ∨ y = 3 ∨ y = 5 ∨ y = 6) := by rw [← Bool.not_eq_true, typedB_iff]
def Tb.regsB (t : Tb) : Bool := decide (t.typ = 5) || decide (t.typ = 6)
theorem Tb.regsB_iff {t : Tb} : t.regsB = true ↔ t.typ = 5 ∨ t.typ = 6 := by simp [Tb.regsB]
/-- Of the first n hosts the others that are registered, and such. -/
def hostsN (K : Nat → Int) (h : Int) (p : Int → Bool) (n : Nat) : List Nat := (List.range n).filter fun i => !(decide ((i : Int) = h)) && (!decide (K i = 0) && p (K i))
theorem hostsN_succ (K : Nat → Int) (h : Int) (p : Int → Bool) (n : Nat) : hostsN K h p (n + 1) = hostsN K h p n ++ if (n : Int) = h ∨ K n = 0 ∨ p (K n) = false then [] else [n] := by
  unfold hostsN
  rw [List.range_succ, List.filter_append]
  congr 1
  by_cases h1 : (n : Int) = h
  · simp [List.filter_cons, h1]
  · by_cases h2 : K n = 0
    · simp [List.filter_cons, h1, h2]
    · cases h3 : p (K n) <;> simp [List.filter_cons, h1, h2, h3]
theorem hostsN_len (K : Nat → Int) (h : Int) (p : Int → Bool) (n : Nat) : (hostsN K h p n).length ≤ n := by
  have := List.length_filter_le (fun i : Nat => !(decide ((i : Int) = h)) && (!decide (K i = 0) && p (K i))) (List.range n)
  simpa [hostsN] using this
theorem hostsN_mem {K : Nat → Int} {h : Int} {p : Int → Bool} {n i : Nat} : i ∈ hostsN K h p n ↔ i < n ∧ ¬ (i : Int) = h ∧ ¬ K i = 0 ∧ p (K i) = true := by
  simp [hostsN]
def noteV (code : Int) (i : Nat) : List Value := [.int .i64 (i : Int), .int .i64 code]
theorem noteV_length (code : Int) (i : Nat) : (noteV code i).length = 2 := rfl
/-- Notices of one kind. -/
def notesV (code : Int) (l : List Nat) : List Value := l.flatMap (noteV code)
theorem notesV_snoc (code : Int) (l : List Nat) (i : Nat) : notesV code l ++ noteV code i = notesV code (l ++ [i]) := by simp [notesV]
/-- What becomes of a table where a host leaves. -/
def Tb.freed (t : Tb) : Tb := { t with hold := -1, typ := 0 }
def Tb.told (t : Tb) (h : Int) : List Nat := if t.regsB then hostsN t.K h (fun _ => true) 8 else []
def Tb.inc (t : Tb) : Tb := { t with gen := IntKind.u32.wrap (t.gen + 1) }
end Go.Sl.RsM
namespace Go.Sl.RsM
open Go Go.Sl
theorem cells_at {t : Tb} {i : Nat} (h : i < 8) : t.cells[0 + 0 + ((i : Nat) : Int).toNat * 1]? = some (.int .u64 (t.K i)) := by
  rw [show 0 + 0 + ((i : Nat) : Int).toNat * 1 = i by simp]; exact cells_key h
theorem cells_set {t : Tb} {i : Nat} {x : Int} (h : i < 8) : t.cells.set (0 + 0 + ((i : Nat) : Int).toNat * 1) (.int .u64 x) = (t.put i x).cells := by
  rw [show 0 + 0 + ((i : Nat) : Int).toNat * 1 = i by simp]; exact cells_put h
theorem cells_lt {t : Tb} {i : Nat} (h : i < 8) : Nat.ble (0 + 0 + ((i : Nat) : Int).toNat * 1 + 1) t.cells.length = true := by
  rw [show 0 + 0 + ((i : Nat) : Int).toNat * 1 = i by simp, show t.cells.length = 11 from rfl, Nat.ble_eq]; omega
/-- May a host with a key? -/
def okM (t : Tb) (h key : Int) : Prop := ∃ i : Nat, h = i ∧ i < 8 ∧ t.K i ≠ 0 ∧ t.K i = key
def newT : Tb := ⟨fun _ => 0, -1, 0, 0⟩
def Tb.take (t : Tb) (h typ : Int) : Tb := { t with hold := h, typ := typ }
def Tb.cleared (t : Tb) : Tb := { t.inc with K := fun _ => 0, hold := -1, typ := 0 }
def regO (t : Tb) (i : Nat) (fresh : Int) : List Nat × Tb := if fresh = 0 ∧ t.hold = (i : Int) then (t.told i, t.inc.freed.put i fresh) else ([], t.inc.put i fresh)
/-- Whoever holds it, or may as a registrant. -/
def alwP (t : Tb) (hh : Int) : Prop := t.hold = -1 ∨ t.hold = hh ∨ (t.regsB = true ∧ ∃ i : Nat, hh = i ∧ i < 8 ∧ t.K i ≠ 0)
def allowP (t : Tb) (hh kind : Int) : Prop := alwP t hh ∨ ((kind = 1 ∨ kind = 2) ∧ (t.typ = 1 ∨ t.typ = 5)) ∨ ¬ (1 ≤ kind ∧ kind ≤ 6)
theorem cells_atI {t : Tb} {x : Int} (h0 : 0 ≤ x) (h : x < 8) : t.cells[0 + 0 + x.toNat * 1]? = some (.int .u64 (t.K x.toNat)) := by
  rw [show 0 + 0 + x.toNat * 1 = x.toNat by simp]; exact cells_key (by omega)
/-- Keys taken away. -/
def zer (t : Tb) (l : List Nat) : Tb := { t with K := fun j => if j ∈ l then 0 else t.K j }
theorem zer_nil (t : Tb) : zer t [] = t := by simp [zer]
theorem zer_snoc (t : Tb) (l : List Nat) (i : Nat) : zer t (l ++ [i]) = (zer t l).put i 0 := by
  unfold zer Tb.put
  congr 1
  funext j
  by_cases h : j = i
  · simp [h]
  · simp [h]
def takesP (t : Tb) (hh other : Int) : Prop := t.hold ≠ -1 ∧ t.hold ≠ hh ∧ t.K t.hold.toNat = other
instance (t : Tb) (hh other : Int) : Decidable (takesP t hh other) := by unfold takesP; exact inferInstance
def preL (t : Tb) (hh other : Int) : List Nat := hostsN t.K hh (fun k => decide (k = other)) 8
def preT0 (t : Tb) (hh other typ : Int) : Tb := (if takesP t hh other then t.take hh typ else t).inc
def preT (t : Tb) (hh other typ : Int) : Tb := zer (preT0 t hh other typ) (preL t hh other)
def preOk (t : Tb) (hh key other typ : Int) : Prop := okM t hh key ∧ other ≠ 0 ∧ preL t hh other ≠ [] ∧ (takesP t hh other → typedB typ = true)
theorem take_snoc {α : Type} {l : List α} {q : Nat} {x : α} (h : l[q]? = some x) : l.take (q + 1) = l.take q ++ [x] := by
  rw [List.take_add_one, h]; rfl
end Go.Sl.RsM
namespace Go.Sl.RsM
open Go Go.Sl
/-- Whoever holds it is registered, and its type is one. -/
def inv (t : Tb) : Prop := (t.hold = -1 ∧ t.typ = 0) ∨ (0 ≤ t.hold ∧ t.hold < 8 ∧ t.K t.hold.toNat ≠ 0 ∧ typedB t.typ = true)
theorem inv_new : inv newT := .inl ⟨rfl, rfl⟩
theorem inv_freed {t : Tb} : inv t.freed := .inl ⟨rfl, rfl⟩
theorem inv_cleared {t : Tb} : inv t.cleared := .inl ⟨rfl, rfl⟩
theorem inv_hold {t : Tb} (h : inv t) : t.hold = -1 ∨ (0 ≤ t.hold ∧ t.hold < 8) := by rcases h with h | h <;> omega
theorem inv_take {t : Tb} {hh key typ : Int} (h : okM t hh key) (ht : typedB typ = true) : inv (t.take hh typ) := by
  obtain ⟨i, rfl, hi, hk, _⟩ := h
  exact .inr ⟨by show (0 : Int) ≤ i; omega, by show (i : Int) < 8; omega, by show t.K (i : Int).toNat ≠ 0; simpa using hk, ht⟩
theorem inv_reg {t : Tb} {i : Nat} {fresh : Int} (h : inv t) (hi : i < 8) : inv (regO t i fresh).2 := by
  unfold regO
  split
  · rename_i hc
    exact .inl ⟨rfl, rfl⟩
  · rename_i hc
    rcases h with ⟨h1, h2⟩ | ⟨h1, h2, h3, h4⟩
    · exact .inl ⟨h1, h2⟩
    · refine .inr ⟨h1, h2, ?_, h4⟩
      show (if t.hold.toNat = i then fresh else t.K t.hold.toNat) ≠ 0
      split
      · rename_i he
        intro hf
        exact hc ⟨hf, by omega⟩
      · exact h3
theorem inv_pre {t : Tb} {hh key other typ : Int} (h : inv t) (hp : preOk t hh key other typ) : inv (preT t hh other typ) := by
  obtain ⟨⟨i, rfl, hi, hk, _⟩, _, _, hty⟩ := hp
  unfold preT preT0
  by_cases htk : takesP t i other
  · rw [if_pos htk]
    refine .inr ⟨by show (0 : Int) ≤ i; omega, by show (i : Int) < 8; omega, ?_, hty htk⟩
    show (if (i : Int).toNat ∈ preL t i other then (0 : Int) else t.K (i : Int).toNat) ≠ 0
    rw [if_neg (by intro hm; exact (hostsN_mem.1 hm).2.1 (by simp))]
    simpa using hk
  · rw [if_neg htk]
    rcases h with ⟨h1, h2⟩ | ⟨h1, h2, h3, h4⟩
    · exact .inl ⟨h1, h2⟩
    · refine .inr ⟨h1, h2, ?_, h4⟩
      show (if t.hold.toNat ∈ preL t i other then (0 : Int) else t.K t.hold.toNat) ≠ 0
      rw [if_neg ?_]
      · exact h3
      · intro hm
        have hm' := hostsN_mem.1 hm
        exact htk ⟨by omega, by intro he; exact hm'.2.1 (by omega), by simpa using hm'.2.2.2⟩
structure Act where
  op : Int
  host : Int
  key : Int
  other : Int
  typ : Int
def Act.cells (a : Act) : List Value := [.int .i64 a.op, .int .i64 a.host, .int .u64 a.key, .int .u64 a.other, .int .i64 a.typ]
theorem Act.cells_length (a : Act) : a.cells.length = 5 := rfl
end Go.Sl.RsM
namespace Go.Sl.RsM
open Go Go.Sl
theorem regO_keep {t : Tb} {i : Nat} {fresh : Int} (h : ¬ fresh = 0) : regO t i fresh = ([], t.inc.put i fresh) := by unfold regO; rw [if_neg (fun hh => h hh.1)]
end Go.Sl.RsM
namespace Go.Sl.RsM
open Go Go.Sl
def yT (n : Nat) : Int := match n % 4 with | 0 => 1 | 1 => 3 | 2 => 5 | _ => 6
theorem yT_typed (n : Nat) : typedB (yT n) = true := by unfold yT; split <;> rfl
theorem yT_row (n : Nat) : (([.int .i64 1, .int .i64 3, .int .i64 5, .int .i64 6] : List Value).drop (n % 4 * 1)).take 1 = [.int .i64 (yT n)] := by
  have h : n % 4 < 4 := Nat.mod_lt _ (by omega)
  unfold yT
  match n % 4, h with
  | 0, _ | 1, _ | 2, _ | 3, _ => rfl
theorem hostsN_congr {K K' : Nat → Int} {h : Int} {p : Int → Bool} {n : Nat} (e : ∀ j, j < n → K j = K' j) : hostsN K h p n = hostsN K' h p n := by
  unfold hostsN
  refine List.filter_congr fun j hj => ?_
  rw [e j (by simpa using hj)]
/-- Registered are the first, and some behind it. -/
def lvI (t : Tb) (h key : Int) (i : Nat) (n : Nat) : Prop := t.hold = -1 ∧ t.typ = 0 ∧ (∀ j, i ≤ j → t.K j = 0) ∧ n = (hostsN t.K h (fun _ => true) i).length
theorem lv_start : lvI (newT.inc.put 0 1) 0 1 1 0 := ⟨rfl, rfl, fun j hj => by show (if j = 0 then (1 : Int) else 0) = 0; rw [if_neg (by omega)], by decide⟩
theorem lv_more {t : Tb} {h key x : Int} {i n : Nat} (H : lvI t h key i n) (hx : x ≠ 0) (hi : (i : Int) ≠ h) : lvI (t.inc.put i x) h key (i + 1) (n + 1) := by
  obtain ⟨h1, h2, h3, h4⟩ := H
  refine ⟨h1, h2, fun j hj => ?_, ?_⟩
  · show (if j = i then x else t.K j) = 0
    rw [if_neg (by omega)]; exact h3 j (by omega)
  · rw [hostsN_succ, if_neg (by
      rintro (h5 | h5 | h5)
      · exact hi h5
      · have : (if i = i then x else t.K i) = 0 := h5
        rw [if_pos rfl] at this; exact hx this
      · cases h5), List.length_append, h4]
    have : hostsN (t.inc.put i x).K h (fun _ => true) i = hostsN t.K h (fun _ => true) i := hostsN_congr fun j hj => by
      show (if j = i then x else t.K j) = t.K j
      rw [if_neg (by omega)]
    rw [this]; rfl
theorem lv_skip {t : Tb} {h key : Int} {i n : Nat} (H : lvI t h key i n) : lvI t h key (i + 1) n := by
  obtain ⟨h1, h2, h3, h4⟩ := H
  refine ⟨h1, h2, fun j hj => h3 j (by omega), ?_⟩
  rw [hostsN_succ, if_pos (.inr (.inl (h3 i (Nat.le_refl _)))), List.append_nil, h4]
/-- The host itself registers. -/
theorem lv_self {t : Tb} {h key x : Int} {i n : Nat} (H : lvI t h key i n) (hi : (i : Int) = h) : lvI (t.inc.put i x) h key (i + 1) n := by
  obtain ⟨h1, h2, h3, h4⟩ := H
  refine ⟨h1, h2, fun j hj => ?_, ?_⟩
  · show (if j = i then x else t.K j) = 0
    rw [if_neg (by omega)]; exact h3 j (by omega)
  · rw [hostsN_succ, if_pos (.inl hi), List.append_nil, h4]
    congr 1
    exact hostsN_congr fun j hj => by
      show t.K j = (if j = i then x else t.K j)
      rw [if_neg (by omega)]
theorem told_mem {t : Tb} {h : Int} {i : Nat} (hi : i ∈ t.told h) : (i : Int) ≠ h := by
  unfold Tb.told at hi
  split at hi
  · exact (hostsN_mem.1 hi).2.1
  · cases hi
theorem told_len {t : Tb} {h : Int} : (t.told h).length ≤ 8 := by
  unfold Tb.told
  split
  · exact hostsN_len ..
  · exact Nat.zero_le _
end Go.Sl.RsM
namespace Go.Sl.RsM
open Go Go.Sl
theorem allow_w {t : Tb} {q : Nat} (hq : q < 8) (ht : typedB t.typ = true) : allowP t q 3 ↔ ((q : Int) = t.hold ∨ t.hold = -1 ∨ (5 ≤ t.typ ∧ t.K q ≠ 0)) := by
  have ht2 := typedB_iff.1 ht
  constructor
  · rintro ((h | h | ⟨h, i, hi, _, hk⟩) | ⟨h, _⟩ | h)
    · exact .inr (.inl h)
    · exact .inl h.symm
    · have : q = i := Int.ofNat.inj hi
      subst this
      have := Tb.regsB_iff.1 h
      exact .inr (.inr ⟨by omega, hk⟩)
    · omega
    · omega
  · rintro (h | h | ⟨h, hk⟩)
    · exact .inl (.inr (.inl h.symm))
    · exact .inl (.inl h)
    · exact .inl (.inr (.inr ⟨Tb.regsB_iff.2 (by omega), q, rfl, hq, hk⟩))
theorem allow_r {t : Tb} {q : Nat} (hq : q < 8) (ht : typedB t.typ = true) : allowP t q 2 ↔ ((q : Int) = t.hold ∨ t.hold = -1 ∨ (5 ≤ t.typ ∧ t.K q ≠ 0) ∨ t.typ = 1 ∨ t.typ = 5) := by
  have e : allowP t q 2 ↔ allowP t q 3 ∨ (t.typ = 1 ∨ t.typ = 5) := by
    constructor
    · rintro (h | ⟨_, h⟩ | h)
      · exact .inl (.inl h)
      · exact .inr h
      · omega
    · rintro ((h | ⟨h, _⟩ | h) | h)
      · exact .inl h
      · omega
      · omega
      · exact .inr (.inl ⟨by omega, h⟩)
  rw [e, allow_w hq ht]
  constructor
  · rintro ((h | h | h) | h)
    · exact .inl h
    · exact .inr (.inl h)
    · exact .inr (.inr (.inl h))
    · exact .inr (.inr (.inr h))
  · rintro (h | h | h | h)
    · exact .inl (.inl h)
    · exact .inl (.inr (.inl h))
    · exact .inl (.inr (.inr h))
    · exact .inr h
end Go.Sl.RsM
