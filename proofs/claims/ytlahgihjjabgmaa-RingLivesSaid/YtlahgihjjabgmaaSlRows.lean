/-
  Rows of byte slices and rows of numbers as arguments.
-/
import Derived.Test.YtlahgihjjabgmaaSlArgs
import Derived.Test.YtlahgihjjabgmaaSlZero
namespace Go.Sl
open Go
set_option linter.unusedVariables false
/-- A byte slice as an element of a row: its place, its capacity, its bytes. -/
abbrev BX := Option Addr × Nat × List UInt8
def BX.b (x : BX) : List UInt8 := x.2.2
def BX.v (x : BX) : Value := .slice x.1 x.2.2.length x.2.1
theorem rd_bytesRows {P : Program} {W : World} {t e u : TypeId} (ht : P.underlying t = some (.slice e)) (he : P.underlying e = some (.slice u)) (hu : P.underlying u = some (.int .u8)) (hc : P.cellsOf e = 1) (hcu : P.cellsOf u = 1) :
    Rd P W t (fun cs => ∃ a c, ∃ l : List BX, cs = [.slice a l.length c] ∧ (∀ x ∈ l, Bytes x.v x.b (hp W)) ∧ Cells 1 (.slice a l.length c) l.length (l.map BX.v) (hp W)) :=
  (rd_sliceOf (α := BX) (Q := fun x => Bytes x.v x.b (hp W)) (f := fun x => [x.v]) ht hc (by omega) ((rd_bytes he hu hcu).mono fun cs ⟨a, c, bs, h1, h2⟩ => ⟨(a, c, bs), h1, h2⟩)).mono fun cs ⟨a, c, l, h1, h2, h3⟩ => ⟨a, c, l, h1, h2, by rw [flatMap_single] at h3; exact h3⟩
theorem rd_ints {P : Program} {W : World} {t e : TypeId} {k : IntKind} (ht : P.underlying t = some (.slice e)) (he : P.underlying e = some (.int k)) (hc : P.cellsOf e = 1) :
    Rd P W t (fun cs => ∃ a c, ∃ l : List Int, cs = [.slice a l.length c] ∧ (∀ x ∈ l, (Lit.int k x).wf = true) ∧ Cells 1 (.slice a l.length c) l.length (l.map (.int k)) (hp W)) :=
  (rd_sliceOf (α := Int) (Q := fun x => (Lit.int k x).wf = true) (f := fun x => [.int k x]) ht hc (by omega) ((rd_int he).mono fun cs ⟨z, h1, h2⟩ => ⟨z, h1, h2⟩)).mono fun cs ⟨a, c, l, h1, h2, h3⟩ => ⟨a, c, l, h1, h2, by rw [flatMap_single] at h3; exact h3⟩
theorem row_v {l : List BX} {i : Nat} {x : BX} (h : l[i]? = some x) : ((l.map BX.v).drop (i * 1)).take 1 = [.slice x.1 x.2.2.length x.2.1] := by
  have hlt := (List.getElem?_eq_some_iff.1 h).1
  have hx := (List.getElem?_eq_some_iff.1 h).2
  rw [Nat.mul_one, List.drop_eq_getElem_cons (by simpa using hlt), List.take_succ_cons, List.take_zero, List.getElem_map, hx]
  rfl
theorem take_snoc {α : Type} {l : List α} {i : Nat} {x : α} (h : l[i]? = some x) : l.take (i + 1) = l.take i ++ [x] := by rw [List.take_add_one, h]; rfl
end Go.Sl
namespace Go.Sl
open Go
theorem Gives.nilC {L : List HProp} {size : Nat} : Gives L (Cells size (.slice none 0 0) 0 []) := fun h _ => ⟨by simp, none, 0, rfl, Nat.le_refl _, by simp, fun _ => rfl, fun h => absurd h (by simp)⟩
end Go.Sl
