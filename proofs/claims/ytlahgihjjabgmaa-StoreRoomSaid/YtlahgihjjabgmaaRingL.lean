/-
  A journal on a disk that has power: plain. No program is named here.
-/
import Derived.Test.YtlahgihjjabgmaaRingM
import Derived.Test.YtlahgihjjabgmaaWitM
namespace Go.Sl.RgM
open Go Go.Sl Go.Sl.ByM Go.Sl.DkM Go.Sl.TwM
set_option linter.unusedVariables false
set_option linter.unusedSimpArgs false
/-! ### A record's parts -/
def partR (b : List UInt8) (i : Nat) : List UInt8 := (b.drop (i * 480)).take 480
theorem needR_pos (n : Nat) : 1 ≤ needR n := Nat.le_max_right _ _
theorem needR_le (n : Nat) : n ≤ needR n * 480 := by unfold needR; split <;> omega
theorem needR_last {n i : Nat} (h : i + 1 < needR n) : (i + 1) * 480 < n := by unfold needR at h; split at h <;> omega
theorem needR_small {n : Nat} (h : n ≤ 480) : needR n = 1 := by unfold needR; split <;> omega
theorem needR_bound {n m : Nat} (h : n ≤ m * 480) (hm : 1 ≤ m) : needR n ≤ m := by unfold needR; split <;> omega
theorem partR_le (b : List UInt8) (i : Nat) : (partR b i).length ≤ 480 := by unfold partR; rw [List.length_take]; omega
theorem partR_full {b : List UInt8} {i : Nat} (h : i + 1 < needR b.length) : (partR b i).length = 480 := by
  have := needR_last h
  unfold partR; rw [List.length_take, List.length_drop]; omega
theorem partR_end {b : List UInt8} {i : Nat} (h : i + 1 = needR b.length) : 0 < (partR b i).length ∨ needR b.length = 1 := by
  by_cases h1 : needR b.length = 1
  · exact .inr h1
  · have := needR_last (n := b.length) (i := i - 1) (by omega)
    refine .inl ?_
    unfold partR; rw [List.length_take, List.length_drop]; omega
theorem parts_succ (b : List UInt8) (i : Nat) : b.take (i * 480) ++ partR b i = b.take ((i + 1) * 480) := by
  unfold partR
  rw [show (i + 1) * 480 = i * 480 + 480 by omega, List.take_add]
theorem parts_all (b : List UInt8) : b.take (needR b.length * 480) = b := List.take_of_length_le (needR_le _)
theorem part_cut (b : List UInt8) (i : Nat) : (b.drop (i * 480)).take (min ((i + 1) * 480) b.length - i * 480) = partR b i := by
  unfold partR
  by_cases h : (i + 1) * 480 ≤ b.length
  · rw [Nat.min_eq_left h, show (i + 1) * 480 - i * 480 = 480 by omega]
  · rw [Nat.min_eq_right (by omega), List.take_of_length_le (by rw [List.length_drop]; omega), List.take_of_length_le (by rw [List.length_drop]; omega)]
/-! ### Where a record stands -/
def posR (at_ n place i : Nat) : Int := ((at_ + (place + i) % n : Nat) : Int)
theorem posR_in {at_ n place i : Nat} (hn : 0 < n) : 0 ≤ posR at_ n place i ∧ posR at_ n place i < ((at_ + n : Nat) : Int) := by
  have := Nat.mod_lt (place + i) hn
  unfold posR
  omega
theorem mod_ne {n a i j : Nat} (hi : i < n) (hj : j < n) (h : (a + i) % n = (a + j) % n) : i = j := by
  have h1 := Nat.div_add_mod (a + i) n
  have h2 := Nat.div_add_mod (a + j) n
  rw [h] at h1
  have key : ∀ x y : Nat, n * x + j = n * y + i → i = j := by
    intro x y e
    rcases Nat.lt_trichotomy x y with hxy | rfl | hxy
    · have := Nat.mul_le_mul_left n (show x + 1 ≤ y from hxy)
      rw [Nat.mul_add] at this
      omega
    · omega
    · have := Nat.mul_le_mul_left n (show y + 1 ≤ x from hxy)
      rw [Nat.mul_add] at this
      omega
  exact key ((a + i) / n) ((a + j) / n) (by omega)
theorem posR_inj {at_ n place i j : Nat} (hi : i < n) (hj : j < n) (h : posR at_ n place i = posR at_ n place j) : i = j := mod_ne (a := place) hi hj (by unfold posR at h; omega)
theorem posR_add {at_ n place u i : Nat} : posR at_ n ((place + u) % n) i = posR at_ n place (u + i) := by
  unfold posR
  rw [Nat.mod_add_mod, Nat.add_assoc]
def Here (d : Dk) (at_ n place number life : Nat) (b : List UInt8) : Prop := ∀ i, i < needR b.length → readD d (posR at_ n place i) = secR number life i (needR b.length) (partR b i)
def Gone (d : Dk) (at_ n place number least life : Nat) : Prop :=
  (unpackR (readD d (posR at_ n place 0))).err ≠ 0 ∨ (unpackR (readD d (posR at_ n place 0))).number ≠ number ∨ (unpackR (readD d (posR at_ n place 0))).part ≠ 0 ∨
  (unpackR (readD d (posR at_ n place 0))).life < least ∨ life < (unpackR (readD d (posR at_ n place 0))).life
/-! ### A record is written -/
def appD (d : Dk) (at_ n place number life : Nat) (b : List UInt8) : Nat → Dk
  | 0 => d
  | i + 1 => (writeD (appD d at_ n place number life b i) (posR at_ n place i) (secR number life i (needR b.length) (partR b i))).2
section
variable {d : Dk} {at_ n place number life : Nat} {b : List UInt8}
theorem app_live (h : Live d) (hn : 0 < n) (hin : ((at_ + n : Nat) : Int) ≤ d.n) : ∀ i, Live (appD d at_ n place number life b i) ∧ (appD d at_ n place number life b i).n = d.n ∧ (appD d at_ n place number life b i).calls = d.calls + i
  | 0 => ⟨h, rfl, by show d.calls = d.calls + ((0 : Nat) : Int); omega⟩
  | i + 1 => by
    obtain ⟨l, e, c⟩ := app_live h hn hin i
    have hp := posR_in (at_ := at_) (place := place) (i := i) hn
    obtain ⟨e1, l1, _⟩ := live_write (k := posR at_ n place i) (bs := secR number life i (needR b.length) (partR b i)) l ⟨hp.1, by omega⟩ (by rw [secR_length (partR_le _ _)]; omega)
    refine ⟨l1, (writeD_n _ _ _).trans e, ?_⟩
    show (writeD _ _ _).2.calls = _
    rw [e1]
    show (appD d at_ n place number life b i).calls + 1 = _
    rw [c]
    omega
theorem app_write (h : Live d) (hn : 0 < n) (hin : ((at_ + n : Nat) : Int) ≤ d.n) (i : Nat) : (writeD (appD d at_ n place number life b i) (posR at_ n place i) (secR number life i (needR b.length) (partR b i))).1 = 0 := by
  obtain ⟨l, e, c⟩ := app_live (place := place) (number := number) (life := life) (b := b) h hn hin i
  have hp := posR_in (at_ := at_) (place := place) (i := i) hn
  obtain ⟨e1, _, _⟩ := live_write (k := posR at_ n place i) (bs := secR number life i (needR b.length) (partR b i)) l ⟨hp.1, by omega⟩ (by rw [secR_length (partR_le _ _)]; omega)
  rw [e1]
theorem app_step (h : Live d) (hn : 0 < n) (hin : ((at_ + n : Nat) : Int) ≤ d.n) (i : Nat) (k' : Int) :
    readD (appD d at_ n place number life b (i + 1)) k' = if k' = posR at_ n place i then secR number life i (needR b.length) (partR b i) else readD (appD d at_ n place number life b i) k' := by
  obtain ⟨l, e, c⟩ := app_live (place := place) (number := number) (life := life) (b := b) h hn hin i
  have hp := posR_in (at_ := at_) (place := place) (i := i) hn
  have hl := secR_length (number := number) (life := life) (part := i) (parts := needR b.length) (partR_le b i)
  obtain ⟨_, _, r⟩ := live_write (k := posR at_ n place i) (bs := secR number life i (needR b.length) (partR b i)) l ⟨hp.1, by omega⟩ (by omega)
  have := r k'
  rw [full_id hl] at this
  exact this
/-- Elsewhere nothing changes. -/
theorem app_else (h : Live d) (hn : 0 < n) (hin : ((at_ + n : Nat) : Int) ≤ d.n) {k' : Int} : ∀ i, (∀ j, j < i → k' ≠ posR at_ n place j) → readD (appD d at_ n place number life b i) k' = readD d k'
  | 0, _ => rfl
  | i + 1, hk => by
    rw [app_step h hn hin, if_neg (hk i (Nat.lt_succ_self i))]
    exact app_else h hn hin i fun j hj => hk j (by omega)
theorem app_here (h : Live d) (hn : 0 < n) (hin : ((at_ + n : Nat) : Int) ≤ d.n) : ∀ i j, j < i → i ≤ n → readD (appD d at_ n place number life b i) (posR at_ n place j) = secR number life j (needR b.length) (partR b j)
  | 0, j, hj, _ => by omega
  | i + 1, j, hj, hi => by
    rw [app_step h hn hin]
    by_cases e : j = i
    · subst e; rw [if_pos rfl]
    · rw [if_neg (fun hh => e (posR_inj (by omega) (by omega) hh))]
      exact app_here h hn hin i j (by omega) (by omega)
end
/-! ### A row of records -/
abbrev LB := Nat × List UInt8
def usedR (l : List LB) : Nat := (l.map fun x => needR x.2.length).sum
def leastR (l : List LB) : Nat := (l.getLast?.map (·.1)).getD 0
theorem usedR_nil : usedR [] = 0 := rfl
theorem usedR_app (l : List LB) (x : LB) : usedR (l ++ [x]) = usedR l + needR x.2.length := by unfold usedR; simp
theorem leastR_app (l : List LB) (x : LB) : leastR (l ++ [x]) = x.1 := by unfold leastR; simp
structure Chain (d : Dk) (at_ n place first life : Nat) (l : List LB) : Prop where
  here : ∀ j x, l[j]? = some x → Here d at_ n ((place + usedR (l.take j)) % n) (first + j) x.1 x.2 ∧ leastR (l.take j) ≤ x.1 ∧ x.1 ≤ life ∧ x.2.length ≤ 32768
  used : usedR l ≤ n
  gone : usedR l = n ∨ Gone d at_ n ((place + usedR l) % n) (first + l.length) (leastR l) life
theorem usedR_take_le (l : List LB) (j : Nat) : usedR (l.take j) ≤ usedR l := by
  unfold usedR
  conv => rhs; rw [← List.take_append_drop j l]
  rw [List.map_append, List.sum_append]
  omega
theorem take_snocR {l : List LB} {j : Nat} {x : LB} (h : l[j]? = some x) : l.take (j + 1) = l.take j ++ [x] := by rw [List.take_add_one, h]; rfl
theorem usedR_step {l : List LB} {j : Nat} {x : LB} (h : l[j]? = some x) : usedR (l.take (j + 1)) = usedR (l.take j) + needR x.2.length := by rw [take_snocR h, usedR_app]
/-- One record more. -/
theorem Chain.app {d : Dk} {at_ n place first life l2 : Nat} {l : List LB} {b : List UInt8} (C : Chain d at_ n place first life l) (h : Live d) (hn : 0 < n) (hin : ((at_ + n : Nat) : Int) ≤ d.n)
    (hl : leastR l ≤ l2) (hl2 : l2 ≤ life) (hb : b.length ≤ 32768) (hroom : usedR l + needR b.length ≤ n)
    (hg : usedR l + needR b.length = n ∨ Gone d at_ n ((place + (usedR l + needR b.length)) % n) (first + l.length + 1) l2 life) :
    Chain (appD d at_ n ((place + usedR l) % n) (first + l.length) l2 b (needR b.length)) at_ n place first life (l ++ [(l2, b)]) := by
  refine ⟨fun j x hx => ?_, by rw [usedR_app]; exact hroom, ?_⟩
  · by_cases hj : j < l.length
    · rw [List.getElem?_append_left hj] at hx
      obtain ⟨h1, h2, h3⟩ := C.here j x hx
      have ht : (l ++ [(l2, b)]).take j = l.take j := by rw [List.take_append_of_le_length (by omega)]
      rw [ht]
      refine ⟨fun i hi => ?_, h2, h3⟩
      rw [app_else h hn hin, h1 i hi]
      intro q hq e
      have hu : usedR (l.take (j + 1)) ≤ usedR l := usedR_take_le l (j + 1)
      rw [usedR_step hx] at hu
      rw [posR_add, posR_add] at e
      have := posR_inj (i := usedR (l.take j) + i) (j := usedR l + q) (by omega) (by omega) e
      omega
    · have hj2 : j = l.length := by
        have := (List.getElem?_eq_some_iff.1 hx).1
        rw [List.length_append, List.length_singleton] at this
        omega
      subst hj2
      rw [List.getElem?_append_right (Nat.le_refl _), Nat.sub_self] at hx
      cases hx
      have ht : (l ++ [(l2, b)]).take l.length = l := List.take_left
      rw [ht]
      exact ⟨fun i hi => app_here h hn hin _ i hi (by show needR b.length ≤ n; omega), hl, hl2, hb⟩
  · rw [usedR_app, leastR_app, List.length_append]
    rcases hg with hg | hg
    · exact .inl hg
    · by_cases e : usedR l + needR b.length = n
      · exact .inl e
      refine .inr ?_
      unfold Gone at hg ⊢
      have hr : readD (appD d at_ n ((place + usedR l) % n) (first + l.length) l2 b (needR b.length)) (posR at_ n ((place + (usedR l + needR b.length)) % n) 0) = readD d (posR at_ n ((place + (usedR l + needR b.length)) % n) 0) := by
        refine app_else h hn hin _ fun q hq e2 => ?_
        rw [posR_add, posR_add] at e2
        have := posR_inj (i := usedR l + needR b.length + 0) (j := usedR l + q) (by omega) (by omega) e2
        omega
      show _ ∨ _
      rw [hr]
      exact hg
theorem chain_blank {d : Dk} {at_ n place first life : Nat} (h : ∀ k, readD d k = List.replicate 512 0) : Chain d at_ n place first life [] := by
  refine ⟨fun j x hx => by simp at hx, Nat.zero_le _, .inr (.inl ?_)⟩
  rw [h]
  exact unpackR_zero
theorem Chain.same {d d' : Dk} {at_ n place first life : Nat} {l : List LB} (C : Chain d at_ n place first life l) (h : ∀ k, readD d' k = readD d k) : Chain d' at_ n place first life l := by
  refine ⟨fun j x hx => ?_, C.used, ?_⟩
  · obtain ⟨h1, h2⟩ := C.here j x hx
    exact ⟨fun i hi => by rw [h]; exact h1 i hi, h2⟩
  · rcases C.gone with g | g
    · exact .inl g
    · exact .inr (by unfold Gone at g ⊢; rw [h]; exact g)
/-- What a later life may read: no sooner life, no more life. -/
theorem Chain.life {d : Dk} {at_ n place first life life' : Nat} {l : List LB} (C : Chain d at_ n place first life l) (hl : life ≤ life')
    (hg : usedR l = n ∨ Gone d at_ n ((place + usedR l) % n) (first + l.length) (leastR l) life') : Chain d at_ n place first life' l :=
  ⟨fun j x hx => by obtain ⟨h1, h2, h3, h4⟩ := C.here j x hx; exact ⟨h1, h2, by omega, h4⟩, C.used, hg⟩
/-! ### Nothing waits -/
def Flat (d : Dk) : Prop := ∀ x ∈ d.m, x.2.wait = []
theorem flat_flush {d : Dk} (h : Live d) : Flat (flushD d).2 := by
  rw [(live_flush h).1]
  intro x hx
  have hx : x ∈ flushM d.m := hx
  unfold flushM at hx
  obtain ⟨y, _, rfl⟩ := List.mem_map.1 hx
  rfl
theorem flat_crash {d : Dk} {ps : List Int} (h : Flat d) : crashM d.m ps = d.m := by
  unfold crashM
  conv => rhs; rw [← List.map_id d.m]
  refine List.map_congr_left fun x hx => ?_
  rw [crash1_none (h x hx)]
  rfl
/-- The power goes and comes, and nothing waited. -/
def onD (d : Dk) : Dk := { d with off := false, armed := 0 }
theorem flat_on {d : Dk} {ps : List Int} (hl : Live d) (h : Flat d) : onD (crashD d ps) = d := by
  rw [crashD_on hl.off hl.dead, flat_crash h]
  cases d
  have h1 := hl.off
  have h2 := hl.armed
  simp at h1 h2
  subst h1; subst h2
  rfl
theorem on_live {d : Dk} (h : d.dead = false) : Live (onD d) := ⟨rfl, h, rfl⟩
end Go.Sl.RgM
