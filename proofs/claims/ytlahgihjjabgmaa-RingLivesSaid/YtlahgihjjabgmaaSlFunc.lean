/-
  Function values, elements of arrays that are values.
-/
import Derived.Test.YtlahgihjjabgmaaSlPart
namespace Go.Sl
open Go
set_option linter.unusedVariables false
section
variable {P : Program} {W0 w : World} {L : List HProp} {ρ : Operand → Value} {d : Option Nat} {ty : TypeId} {pos : String} {af : Array Edge} {g : Option (Nat × Bool)}
theorem run_makeFunc {fn : Fn} {xs ys : List Operand} : (execOp ρ ⟨d, .makeFunc fn xs.toArray ys.toArray, ty, pos, af, g⟩).run P w = .ok (.value (.func fn (xs.map ρ).toArray (ys.map ρ).toArray)) w := by
  simp [execOp, Instr.makeFunc]
theorem run_indexArr {t e n : Nat} {x y : Operand} {k : IntKind} {i : Int} {cs : List Value} {v : Value} (hU : P.underlying t = some (.array n e)) (hS : ∀ w, (sizeOf e).run P w = .ok 1 w) (hA : ∀ w, (isAgg e).run P w = .ok false w)
    (hx : ρ x = .agg cs.toArray) (hy : ρ y = .int k i) (h0 : 0 ≤ i) (h1 : i < n) (hv : cs[i.toNat]? = some v) : (execOp ρ ⟨d, .index t x y, ty, pos, af, g⟩).run P w = .ok (.value v) w := by
  simp [execOp, Instr.index, run_underlying hU, hx, hy, asIntOf, hS, h0, h1, part, hA, hv]
theorem run_indexStr {t : Nat} {x y : Operand} {k : IntKind} {i : Nat} {s : ByteArray} {c : UInt8} (hU : P.underlying t = some .string) (hx : ρ x = .string s) (hy : ρ y = .int k (i : Int)) (hc : s[i]? = some c) : (execOp ρ ⟨d, .index t x y, ty, pos, af, g⟩).run P w = .ok (.value (.int .u8 (c.toNat : Int))) w := by
  simp [execOp, Instr.index, run_underlying hU, hx, hy, asIntOf, hc]
theorem run_eqlInts2 {t yt : TypeId} {x y : Operand} {f1 f2 : Field} {k k1 k2 : IntKind} {a b c c' : Int} (hU : P.underlying t = some (.struct #[f1, f2])) (hn1 : f1.name ≠ "_") (hn2 : f2.name ≠ "_") (ho1 : f1.offset = 0) (ho2 : f2.offset = 1)
    (hE1 : P.underlying f1.type = some (.int k1)) (hE2 : P.underlying f2.type = some (.int k2)) (hA1 : ∀ w, (isAgg f1.type).run P w = .ok false w) (hA2 : ∀ w, (isAgg f2.type).run P w = .ok false w) (hH : P.stoodInHeld t = false) (hG : P.eqGuardType P.depth t = false)
    (hx : ρ x = .agg #[.int k a, .int k b]) (hy : ρ y = .agg #[.int k c, .int k c']) :
    (execOp ρ ⟨d, .binOp .eql t x y yt, ty, pos, af, g⟩).run P w = .ok (.value (.bool (decide (a = c ∧ b = c')))) w := by
  have e1 : ∀ a b : Int, (Op.equalIn 9999 f1.type (.int k a) (.int k b)).run P w = .ok (a == b) w := fun a b => eqIn_int (P := P) (w := w) hE1 9998
  have e2 : ∀ a b : Int, (Op.equalIn 9999 f2.type (.int k a) (.int k b)).run P w = .ok (a == b) w := fun a b => eqIn_int (P := P) (w := w) hE2 9998
  have key : (Op.equalIn 10000 t (.agg #[.int k a, .int k b]) (.agg #[.int k c, .int k c'])).run P w = .ok (decide (a = c ∧ b = c')) w := by
    rw [show (10000 : Nat) = 9999 + 1 from rfl]
    unfold Op.equalIn
    by_cases h1 : a = c <;> by_cases h2 : b = c' <;> simp [run_underlying hU, hH, part, hA1, hA2, ho1, ho2, hn1, hn2, e1, e2, h1, h2]
  simp [execOp, eqGuard, hG, hx, hy, binOp, Op.equal, Op.maxDepth, key]
end
end Go.Sl
