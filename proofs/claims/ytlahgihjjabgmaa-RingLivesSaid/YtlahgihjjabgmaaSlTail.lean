/-
  What lies behind a front of an owned slice; zeros as bytes. Nothing of any program is named here.
-/
import Derived.Test.YtlahgihjjabgmaaSlIns
namespace Go.Sl
open Go
set_option linter.unusedVariables false
theorem sliced_tail (b o l n c size : Nat) : sliced (some ⟨b, o, none⟩) l n c size = .slice (if c = l then some ⟨b, o, none⟩ else some ⟨b, o + l * size, none⟩) (n - l) (c - l) := by
  unfold sliced
  by_cases h : c = l <;> simp [h, Addr.add_mk]
theorem Own.tail {W0 w : World} {L : List HProp} {size n c b o l : Nat} {xs : List Value} (H : On W0 (Own size (.slice (some ⟨b, o, none⟩) n c) n xs :: L) w) (hl : l ≤ n) :
    On W0 (Own size (.slice (if c = l then some ⟨b, o, none⟩ else some ⟨b, o + l * size, none⟩) (n - l) (c - l)) (n - l) (xs.drop (l * size)) :: L) w := H.head fun h ⟨hx, ho⟩ => by
  have hlx : (xs.drop (l * size)).length = (n - l) * size := by rw [List.length_drop, hx, Nat.sub_mul]
  refine ⟨hlx, ?_⟩
  rcases ho with ⟨h0, ao, hv⟩ | ⟨g, off, cap, cur, e, fr, hv, h1, h2, h3, h4, h5, h6⟩
  · simp only [Value.slice.injEq] at hv
    obtain ⟨rfl, rfl, rfl⟩ := hv
    exact .inl ⟨by omega, _, by rw [Nat.zero_sub]⟩
  · simp only [Value.slice.injEq, Option.some.injEq, Addr.mk.injEq] at hv
    obtain ⟨⟨rfl, rfl, _⟩, _, rfl⟩ := hv
    by_cases hc : c = l
    · exact .inl ⟨by omega, _, by rw [show n - l = 0 by omega, show c - l = 0 by omega]⟩
    · rw [if_neg hc]
      have hle : l * size ≤ c * size := Nat.mul_le_mul_right _ (by omega)
      refine .inr ⟨b, o + l * size, c - l, cur, e, fr, rfl, by omega, by omega, ?_, ?_, h5, h6⟩
      · rw [Nat.sub_mul]; omega
      · rw [← h4, List.drop_take, List.drop_drop, Nat.sub_mul]
theorem zerosB (n : Nat) : bytesV (List.replicate n 0) = List.replicate n (.int .u8 0) := by
  unfold bytesV
  rw [List.map_replicate]
  rfl
theorem bytes_set (bs : List UInt8) (i : Nat) (x : UInt8) : (bytesV bs).set i (.int .u8 (x.toNat : Int)) = bytesV (bs.set i x) := by
  unfold bytesV
  rw [List.map_set]
section
variable {P : Program} {w : World} {ρ : Operand → Value} {d : Option Nat} {ty : TypeId} {pos : String} {af : Array Edge} {g : Option (Nat × Bool)}
theorem run_remNV {t yt : TypeId} {x y : Operand} {m n r : Nat} (hx : ρ x = .int .i64 (m : Int)) (hy : ρ y = .int .i64 (n : Int)) (h' : 1 ≤ n) (hr : m % n = r) : (execOp ρ ⟨d, .binOp .rem t x y yt, ty, pos, af, g⟩).run P w = .ok (.value (.int .i64 (r : Int))) w := by
  rw [run_rem hx hy (by omega) (by omega), ← hr]
  rfl
end
end Go.Sl
