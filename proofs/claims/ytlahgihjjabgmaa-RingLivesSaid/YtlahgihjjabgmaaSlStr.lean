/-
  Texts put together.
-/
import Derived.Test.YtlahgihjjabgmaaSlPart
import Derived.Laws.Concat
namespace Go.Sl
open Go
section
variable {P : Program} {w : World} {ρ : Operand → Value} {d : Option Nat} {ty : TypeId} {pos : String} {af : Array Edge} {g : Option (Nat × Bool)}
theorem run_addStr {t yt : TypeId} {x y : Operand} {a b : List UInt8} (hx : ρ x = .string ⟨a.toArray⟩) (hy : ρ y = .string ⟨b.toArray⟩) (h : a.length + b.length ≤ 9223372036854775807) :
    (execOp ρ ⟨d, .binOp .add t x y yt, ty, pos, af, g⟩).run P w = .ok (.value (.string ⟨(a ++ b).toArray⟩)) w := by
  have h1 := run_string_add_sum (P := P) (w := w) ⟨a.toArray⟩ ⟨b.toArray⟩ (by simpa [ByteArray.size] using h)
  have e : (⟨a.toArray⟩ : ByteArray) ++ ⟨b.toArray⟩ = ⟨(a ++ b).toArray⟩ := by
    apply ByteArray.ext
    rw [ByteArray.data_append]
    simp
  rw [e] at h1
  simp [execOp, eqGuard, hx, hy, binOp, h1]
end
end Go.Sl
namespace Go.Sl
open Go
section
variable {P : Program} {W0 w : World} {L L' : List HProp} {ρ : Operand → Value} {d : Option Nat} {ty : TypeId} {pos : String} {af : Array Edge} {g : Option (Nat × Bool)}
theorem append_types {t t2 e e2 : TypeId} {v y : Value} (hU : P.underlying t = some (.slice e)) (hU2 : P.underlying t2 = some (.slice e2)) : (Builtin.append_ #[t, t2] ty #[v, y]).run P w = (Builtin.append_ #[t, t] ty #[v, y]).run P w := by
  cases v <;> simp [Builtin.append_, run_underlying hU, run_underlying hU2]
/-- append(s, y...) where y's type has another name. -/
theorem eff_appT {t t2 e e2 size n m bytes c1 c2 : Nat} {a1 a2 : Option Addr} {z : Value} {xs ys : List Value} {i : TypeInfo} {sx sy : Operand} (H : On W0 L w) (hs : ρ sx = .slice a1 n c1) (hy : ρ sy = .slice a2 m c2) [p : OwnIn L (.slice a1 n c1) size n xs L'] (C : Cells size (.slice a2 m c2) m ys (hp w))
    (hU : P.underlying t = some (.slice e)) (hU2 : P.underlying t2 = some (.slice e2)) (hI : P.info? e = some i) (hsz : i.size = size) (hby : i.bytes = bytes) (hz : i.zero = some z) (hzs : z.cells.size = size)
    (h63 : n + m ≤ maxLen) (hb : (n + m) * bytes ≤ 140737488355328) (h1c : ∀ u ∈ ys, u.oneCell' = true) :
    Eff P ρ ⟨d, .call { callee := .builtin .append, args := #[sx, sy], argTypes := #[t, t2] }, ty, pos, af, g⟩ w (Grown size (n + m) (xs ++ ys) W0 L') := by
  obtain ⟨v', w', hr, hG⟩ := append_own (ty := ty) (H.imp p.out) C hU hI hsz hby hz hzs h63 hb h1c
  refine .inl ⟨v', w', ?_, hG⟩
  have hr2 := append_types (ty := ty) (w := w) (v := .slice a1 n c1) (y := .slice a2 m c2) hU hU2
  rw [hr] at hr2
  simp [execOp, resolve, invoke, builtin, hs, hy, hr2]
end
end Go.Sl
