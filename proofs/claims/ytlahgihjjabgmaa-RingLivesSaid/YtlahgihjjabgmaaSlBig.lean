/-
  As many parts as a list is long.
-/
import Derived.Test.YtlahgihjjabgmaaSlMap
namespace Go.Sl
open Go
set_option linter.unusedVariables false
def Big {α : Type} (A : α → HProp) (l : List α) : HProp := star (l.map A)
section
variable {α : Type} {A : α → HProp} {l l' : List α} {W0 w : World} {L : List HProp}
theorem map_eraseIdxS (f : α → HProp) : ∀ (l : List α) (i : Nat), (l.map f).eraseIdx i = (l.eraseIdx i).map f
  | [], _ => by simp
  | _ :: _, 0 => by simp
  | x :: l, i + 1 => by simp [map_eraseIdxS f l i]
theorem Big.nil (H : On W0 L w) : On W0 (Big A [] :: L) w := H.new fun h => trivial
theorem Big.perm (p : l.Perm l') (H : On W0 (Big A l :: L) w) : On W0 (Big A l' :: L) w := H.head fun h s => Sat.perm (p.map A) s
/-- One of them, to the front. -/
theorem Big.open {i : Nat} {x : α} (hx : l[i]? = some x) (H : On W0 (Big A l :: L) w) : On W0 (A x :: Big A (l.eraseIdx i) :: L) w := by
  have h1 := H.unstar
  have h2 := h1.pull i (A := A x) (by
    have hlt := (List.getElem?_eq_some_iff.1 hx).1
    rw [List.getElem?_append_left (by simpa using hlt), List.getElem?_map, hx]; rfl)
  have hlt := (List.getElem?_eq_some_iff.1 hx).1
  rw [List.eraseIdx_append_of_lt_length (by simpa using hlt), map_eraseIdxS] at h2
  have h3 : On W0 ((A x :: (l.eraseIdx i).map A) ++ L) w := h2
  have h4 : On W0 (([A x] ++ ((l.eraseIdx i).map A)) ++ L) w := h3
  rw [List.append_assoc] at h4
  have h5 : On W0 (A x :: ((l.eraseIdx i).map A ++ L)) w := h4
  exact h5.imp fun h s => s.tailImp fun k s' => Sat.toStar s'
/-- Back again, another one, in its place. -/
theorem Big.close {i : Nat} {y : α} (hi : i < l.length) (H : On W0 (A y :: Big A (l.eraseIdx i) :: L) w) : On W0 (Big A (l.set i y) :: L) w := by
  have h1 : On W0 (A y :: ((l.eraseIdx i).map A ++ L)) w := H.imp fun h s => s.tailImp fun k s' => Sat.unstar s'
  have h2 : On W0 ((A y :: (l.eraseIdx i).map A) ++ L) w := h1
  have h3 : On W0 (Big A (y :: l.eraseIdx i) :: L) w := On.toStar h2
  refine Big.perm ?_ h3
  have e1 : l.set i y = l.take i ++ y :: l.drop (i + 1) := by rw [List.set_eq_take_append_cons_drop, if_pos hi]
  have e2 : l.eraseIdx i = l.take i ++ l.drop (i + 1) := List.eraseIdx_eq_take_drop_succ ..
  rw [e1, e2]
  exact List.perm_middle.symm
theorem Big.push {y : α} (H : On W0 (A y :: Big A l :: L) w) : On W0 (Big A (l ++ [y]) :: L) w := by
  have h1 : On W0 (A y :: (l.map A ++ L)) w := H.imp fun h s => s.tailImp fun k s' => Sat.unstar s'
  have h2 : On W0 ((A y :: l.map A) ++ L) w := h1
  have h3 : On W0 (Big A (y :: l) :: L) w := On.toStar h2
  exact Big.perm (List.perm_append_singleton y l).symm h3
end
end Go.Sl
