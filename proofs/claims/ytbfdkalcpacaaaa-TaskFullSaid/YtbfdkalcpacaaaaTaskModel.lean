/-
  Tasks in order, as plain data, and as they lie. No program is named here.
-/
import Derived.Test.YtbfdkalcpacaaaaSlIns
namespace Go.Sl.TkM
open Go Go.Sl
set_option linter.unusedVariables false
structure Tk where
  tag : Int
  attr : Int
  st : Bool
deriving DecidableEq
def Tk.cells (t : Tk) : List Value := [.int .u32 t.tag, .int .i64 t.attr, .bool t.st]
theorem Tk.cells_length (t : Tk) : t.cells.length = 3 := rfl
/-- Where the first such one stands. -/
def idxI (p : Tk → Bool) (l : List Tk) : Int := match l.findIdx? p with | some i => (i : Int) | none => -1
theorem idxI_none {p : Tk → Bool} {l : List Tk} (h : ∀ x ∈ l, p x = false) : idxI p l = -1 := by
  unfold idxI
  rw [List.findIdx?_eq_none_iff.2 h]
theorem idxI_hit {p : Tk → Bool} {l : List Tk} {i : Nat} {x : Tk} (hx : l[i]? = some x) (hp : p x = true) (hn : ∀ j y, j < i → l[j]? = some y → p y = false) : idxI p l = i := by
  unfold idxI
  have hlt := (List.getElem?_eq_some_iff.1 hx).1
  have : l.findIdx? p = some i := List.findIdx?_eq_some_iff_getElem.2 ⟨hlt, by rw [(List.getElem?_eq_some_iff.1 hx).2]; exact hp, fun j hj => by
    have := hn j (l[j]'(by omega)) hj (by simp)
    simp [this]⟩
  rw [this]
theorem idxI_cases (p : Tk → Bool) (l : List Tk) : (idxI p l = -1 ∧ ∀ x ∈ l, p x = false) ∨ ∃ (i : Nat) (x : Tk), idxI p l = (i : Int) ∧ l[i]? = some x ∧ p x = true := by
  unfold idxI
  rcases h : l.findIdx? p with _ | i
  · exact .inl ⟨rfl, List.findIdx?_eq_none_iff.1 h⟩
  · obtain ⟨h1, h2, _⟩ := List.findIdx?_eq_some_iff_getElem.1 h
    exact .inr ⟨i, l[i], rfl, by simp, h2⟩
theorem idxI_neg {p : Tk → Bool} {l : List Tk} : decide (0 ≤ idxI p l) = l.any p := by
  rcases idxI_cases p l with ⟨h, hn⟩ | ⟨i, x, h, hx, hp⟩
  · rw [h, show l.any p = false by rw [List.any_eq_false]; intro x hx; rw [hn x hx]; simp]; rfl
  · rw [h, show l.any p = true by rw [List.any_eq_true]; exact ⟨x, List.mem_of_getElem? hx, hp⟩]; simp
structure TS where
  most : Int
  l : List Tk
deriving DecidableEq
def findT (s : TS) (tag : Int) : Int := idxI (fun t => decide (t.tag = tag)) s.l
def atT (s : TS) (attr : Int) : Nat := if attr = 2 ∧ 0 ≤ idxI (fun t => !t.st) s.l then (idxI (fun t => !t.st) s.l).toNat else s.l.length
def insT (s : TS) (i : Nat) (t : Tk) : TS := { s with l := s.l.take i ++ t :: s.l.drop i }
def enB (l : List Tk) (i : Nat) (t : Tk) : Bool := if t.st then false else if t.attr = 2 then true else if t.attr = 1 then decide (i = 0) else !(l.take i).any fun u => decide (u.attr ≠ 0)
def enL (l : List Tk) (k : Nat) : List Nat := (List.range k).filter fun i => match l[i]? with | some t => enB l i t | none => false
def tagsV (l : List Tk) (is : List Nat) : List Value := is.flatMap fun i => match l[i]? with | some t => [.int .u32 t.tag] | none => []
theorem enL_succ {l : List Tk} {k : Nat} {t : Tk} (h : l[k]? = some t) : enL l (k + 1) = enL l k ++ if enB l k t then [k] else [] := by
  unfold enL
  rw [List.range_succ, List.filter_append]
  congr 1
  cases hb : enB l k t <;> simp [h, hb]
def startT (s : TS) (i : Nat) (t : Tk) : TS := { s with l := s.l.set i { t with st := true } }
def delT (s : TS) (i : Nat) : TS := { s with l := s.l.take i ++ s.l.drop (i + 1) }
/-- The set as it lies. -/
def SetP (T b : Nat) (s : TS) : HProp := Ex fun (x : Option Addr × Nat) => Pack (s.l.length ≤ 256)
  [blk b [.int .i64 s.most, .slice x.1 s.l.length x.2] T, Own 3 (.slice x.1 s.l.length x.2) s.l.length (s.l.flatMap Tk.cells)]
section
variable {W0 w : World} {L : List HProp} {T b : Nat} {s : TS}
theorem openT (H : On W0 (SetP T b s :: L) w) : ∃ a c, s.l.length ≤ 256 ∧ On W0 (blk b [.int .i64 s.most, .slice a s.l.length c] T :: Own 3 (.slice a s.l.length c) s.l.length (s.l.flatMap Tk.cells) :: L) w := by
  obtain ⟨⟨a, c⟩, H⟩ := H.ex
  obtain ⟨h1, H⟩ := H.unpack
  exact ⟨a, c, h1, H⟩
theorem closeT {a : Option Addr} {c : Nat} (h1 : s.l.length ≤ 256) (H : On W0 (blk b [.int .i64 s.most, .slice a s.l.length c] T :: Own 3 (.slice a s.l.length c) s.l.length (s.l.flatMap Tk.cells) :: L) w) : On W0 (SetP T b s :: L) w :=
  On.exI (a, c) (On.pack h1 H)
end
/-- What is inserted, cell by cell. -/
theorem ins_splice {xs zs vs : List Value} {i n size : Nat} (hx : xs.length = n * size) (hz : zs.length = size) (hv : vs.length = size) (hi : i ≤ n) :
    splice (splice (xs ++ zs) ((i + 1) * size) (xs.drop (i * size))) (i * size) vs = xs.take (i * size) ++ vs ++ xs.drop (i * size) := by
  have h1 : i * size ≤ n * size := Nat.mul_le_mul_right _ hi
  have h2 : (i + 1) * size = i * size + size := Nat.succ_mul ..
  rw [h2]
  generalize hp : i * size = p at *
  generalize hnn : n * size = m at *
  have hA : (xs.take p).length = p := by rw [List.length_take, hx]; omega
  have hB : (xs.drop p).length = m - p := by rw [List.length_drop, hx]
  have e1 : splice (xs ++ zs) (p + size) (xs.drop p) = (xs ++ zs).take (p + size) ++ xs.drop p := by
    unfold splice
    rw [List.drop_of_length_le (l := xs ++ zs) (by rw [List.length_append, hx, hz, hB]; omega), List.append_nil]
  have hT : ((xs ++ zs).take (p + size)).length = p + size := by rw [List.length_take, List.length_append, hx, hz]; omega
  rw [e1]
  unfold splice
  rw [hv, List.take_append_of_le_length (by rw [hT]; omega), List.take_take, Nat.min_eq_left (by omega), List.take_append_of_le_length (by rw [hx]; omega),
    List.drop_append_of_le_length (by rw [hT]; omega), List.drop_of_length_le (l := (xs ++ zs).take (p + size)) (by rw [hT]; omega), List.nil_append]
theorem set_flat : ∀ (l : List Tk) (i : Nat) (x : Tk), l[i]? = some x → (l.flatMap Tk.cells).set (i * 3 + 2) (.bool true) = (l.set i { x with st := true }).flatMap Tk.cells := by
  intro l
  induction l with
  | nil => intro i x h; simp at h
  | cons y l ih =>
    intro i x h
    cases i with
    | zero =>
      simp at h
      subst h
      simp [Tk.cells]
    | succ i =>
      simp at h
      have := ih i x h
      rw [List.set_cons_succ, List.flatMap_cons, List.flatMap_cons, ← this, List.set_append, if_neg (by rw [Tk.cells_length]; omega), Tk.cells_length]
      congr 2; omega
theorem findT_cases (s : TS) (tag : Int) : findT s tag = -1 ∨ ∃ (i : Nat) (x : Tk), findT s tag = (i : Int) ∧ s.l[i]? = some x ∧ x.tag = tag := by
  rcases idxI_cases (fun t => decide (t.tag = tag)) s.l with ⟨h, _⟩ | ⟨i, x, h1, h2, h3⟩
  · exact .inl h
  · exact .inr ⟨i, x, h1, h2, by simpa using h3⟩
def wtL (l : List Tk) (k : Nat) : Nat := ((l.take k).filter fun t => !t.st).length
theorem wtL_succ {l : List Tk} {k : Nat} {t : Tk} (h : l[k]? = some t) : wtL l (k + 1) = wtL l k + if t.st then 0 else 1 := by
  unfold wtL
  rw [List.take_add_one, h, List.filter_append, List.length_append]
  cases hb : t.st <;> simp [hb]
theorem enL_len (l : List Tk) (k : Nat) : (enL l k).length ≤ k := by
  have := List.length_filter_le (fun i => match l[i]? with | some t => enB l i t | none => false) (List.range k)
  simpa [enL] using this
theorem tagsV_snoc {l : List Tk} {is : List Nat} {k : Nat} {t : Tk} (h : l[k]? = some t) : tagsV l is ++ [.int .u32 t.tag] = tagsV l (is ++ [k]) := by
  simp [tagsV, h]
theorem cells_oneT {l : List Tk} : ∀ u ∈ l.flatMap Tk.cells, u.oneCell' = true := fun u hu => by
  obtain ⟨x, _, hx⟩ := List.mem_flatMap.1 hu
  simp [Tk.cells] at hx
  rcases hx with rfl | rfl | rfl <;> rfl
theorem del_flat (l : List Tk) (i : Nat) : (l.take i ++ l.drop (i + 1)).flatMap Tk.cells = (l.flatMap Tk.cells).take (i * 3) ++ (l.flatMap Tk.cells).drop ((i + 1) * 3) := by
  rw [take_flatMap Tk.cells 3 Tk.cells_length, dropAll_flatMap Tk.cells 3 Tk.cells_length, List.flatMap_append]
end Go.Sl.TkM
