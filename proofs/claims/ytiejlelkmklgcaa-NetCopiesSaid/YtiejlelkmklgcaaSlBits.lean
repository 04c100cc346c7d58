/-
  Small steps more: comparisons of bools that are known, bits of numbers that are no less than nought.
-/
import Derived.Test.YtiejlelkmklgcaaSlArgs
namespace Go.Sl
open Go
section
variable {P : Program} {w : World} {ρ : Operand → Value} {d : Option Nat} {ty : TypeId} {pos : String} {af : Array Edge} {g : Option (Nat × Bool)}
theorem run_eqlBoolT {t yt : TypeId} {x y : Operand} {a b : Bool} (hU : P.underlying t = some .bool) (hx : ρ x = .bool a) (hy : ρ y = .bool b) (h : a = b) : (execOp ρ ⟨d, .binOp .eql t x y yt, ty, pos, af, g⟩).run P w = .ok (.value (.bool true)) w := by
  rw [run_eqlBool hU hx hy, h]; simp
theorem run_neqBoolF {t yt : TypeId} {x y : Operand} {a b : Bool} (hU : P.underlying t = some .bool) (hx : ρ x = .bool a) (hy : ρ y = .bool b) (h : a = b) : (execOp ρ ⟨d, .binOp .neq t x y yt, ty, pos, af, g⟩).run P w = .ok (.value (.bool false)) w := by
  rw [run_neqBool hU hx hy, h]; simp
theorem run_neqStrF {t yt : TypeId} {x y : Operand} {a b : ByteArray} (hx : ρ x = .string a) (hy : ρ y = .string b) (h : a.toList = b.toList) : (execOp ρ ⟨d, .binOp .neq t x y yt, ty, pos, af, g⟩).run P w = .ok (.value (.bool false)) w := by
  rw [run_neqStr hx hy]; simp [h]
theorem run_neqStrT {t yt : TypeId} {x y : Operand} {a b : ByteArray} (hx : ρ x = .string a) (hy : ρ y = .string b) (h : ¬ a.toList = b.toList) : (execOp ρ ⟨d, .binOp .neq t x y yt, ty, pos, af, g⟩).run P w = .ok (.value (.bool true)) w := by
  rw [run_neqStr hx hy]; simp [h]
end
end Go.Sl
