/-
  Small steps more: comparisons of bools that are known, bits of numbers that are no less than nought.
-/
import Derived.Test.YtlahgihjjabgmaaSlArgs
namespace Go.Sl
open Go
section
variable {P : Program} {w : World} {ρ : Operand → Value} {d : Option Nat} {ty : TypeId} {pos : String} {af : Array Edge} {g : Option (Nat × Bool)}
theorem run_eqlBoolT {t yt : TypeId} {x y : Operand} {a b : Bool} (hU : P.underlying t = some .bool) (hx : ρ x = .bool a) (hy : ρ y = .bool b) (h : a = b) : (execOp ρ ⟨d, .binOp .eql t x y yt, ty, pos, af, g⟩).run P w = .ok (.value (.bool true)) w := by
  rw [run_eqlBool hU hx hy, h]; simp
theorem run_neqBoolF {t yt : TypeId} {x y : Operand} {a b : Bool} (hU : P.underlying t = some .bool) (hx : ρ x = .bool a) (hy : ρ y = .bool b) (h : a = b) : (execOp ρ ⟨d, .binOp .neq t x y yt, ty, pos, af, g⟩).run P w = .ok (.value (.bool false)) w := by
  rw [run_neqBool hU hx hy, h]; simp
theorem run_neqStrF {t yt : TypeId} {x y : Operand} {a b : ByteArray} (hx : ρ x = .string a) (hy : ρ y = .string b) (h : a.toList = b.toList) : (execOp ρ ⟨d, .binOp .neq t x y yt, ty, pos, af, g⟩).run P w = .ok (.value (.bool false)) w := by
  rw [run_neqStr hx hy]; simp [h]
theorem run_neqStrT {t yt : TypeId} {x y : Operand} {a b : ByteArray} (hx : ρ x = .string a) (hy : ρ y = .string b) (h : ¬ a.toList = b.toList) : (execOp ρ ⟨d, .binOp .neq t x y yt, ty, pos, af, g⟩).run P w = .ok (.value (.bool true)) w := by
  rw [run_neqStr hx hy]; simp [h]
theorem run_convIn {s t : TypeId} {x : Operand} {k j : IntKind} {n : Int} {ds : TypeDesc} (hs : P.underlying s = some ds) (ht : P.underlying t = some (.int k)) (hx : ρ x = .int j n) (h : k.min ≤ n) (h' : n ≤ k.max) :
    (execOp ρ ⟨d, .convert s t x, ty, pos, af, g⟩).run P w = .ok (.value (.int k n)) w := by
  rw [run_convInt hs ht hx, wrap_in _ h h']
theorem run_shrN {t yt : TypeId} {x y : Operand} {k ky : IntKind} {m j : Nat} (hx : ρ x = .int k (m : Int)) (hy : ρ y = .int ky (j : Int)) (hj : j ≤ k.bits) :
    (execOp ρ ⟨d, .binOp .shr t x y yt, ty, pos, af, g⟩).run P w = .ok (.value (.int k ((m / 2 ^ j : Nat) : Int))) w := by
  rw [run_shr hx hy (by omega)]
  rw [Int.toNat_natCast, Nat.min_eq_left hj]
  have : (m : Int).fdiv (2 ^ j) = ((m / 2 ^ j : Nat) : Int) := by
    rw [Int.fdiv_eq_ediv_of_nonneg _ (Int.pow_nonneg (by omega))]
    rw [Int.natCast_ediv, Int.natCast_pow]
    rfl
  rw [this]
theorem ofInt_nat (b m : Nat) (h : m < 2 ^ b) : (BitVec.ofInt b (m : Int)).toNat = m := by
  rw [BitVec.toNat_ofInt]
  have : ((m : Int) % ((2 ^ b : Nat) : Int)) = (m : Int) := Int.emod_eq_of_lt (by omega) (by exact_mod_cast h)
  rw [this]; simp
theorem bits_top (k : IntKind) (m : Nat) (h : (m : Int) ≤ k.max) : m < 2 ^ k.bits := by
  cases k <;> simp [IntKind.max, IntKind.bits] at * <;> omega
theorem run_andN {t yt : TypeId} {x y : Operand} {k : IntKind} {m n : Nat} (hx : ρ x = .int k (m : Int)) (hy : ρ y = .int k (n : Int)) (hm : (m : Int) ≤ k.max) (hn : (n : Int) ≤ k.max) :
    (execOp ρ ⟨d, .binOp .and t x y yt, ty, pos, af, g⟩).run P w = .ok (.value (.int k ((m &&& n : Nat) : Int))) w := by
  rw [run_and hx hy]
  rw [BitVec.toNat_and, ofInt_nat _ _ (bits_top _ _ hm), ofInt_nat _ _ (bits_top _ _ hn)]
  have h1 : m &&& n ≤ n := Nat.and_le_right
  have h0 : k.min ≤ 0 := by cases k <;> decide
  rw [wrap_in _ (by omega) (by omega)]
theorem run_andMod {t yt : TypeId} {x y : Operand} {k : IntKind} {m n : Nat} (j : Nat) (hx : ρ x = .int k (m : Int)) (hy : ρ y = .int k (n : Int)) (hm : (m : Int) ≤ k.max) (hn : (n : Int) ≤ k.max) (hj : n = 2 ^ j - 1) :
    (execOp ρ ⟨d, .binOp .and t x y yt, ty, pos, af, g⟩).run P w = .ok (.value (.int k ((m % 2 ^ j : Nat) : Int))) w := by
  rw [run_andN hx hy hm hn, hj, Nat.and_two_pow_sub_one_eq_mod]
/-- Any number made a byte. -/
theorem run_convByte {s t : TypeId} {x : Operand} {j : IntKind} {n : Nat} {ds : TypeDesc} (hs : P.underlying s = some ds) (ht : P.underlying t = some (.int .u8)) (hx : ρ x = .int j (n : Int)) :
    (execOp ρ ⟨d, .convert s t x, ty, pos, af, g⟩).run P w = .ok (.value (.int .u8 ((UInt8.ofNat n).toNat : Int))) w := by
  rw [run_convInt hs ht hx]
  have : IntKind.wrap .u8 (n : Int) = (((UInt8.ofNat n).toNat : Nat) : Int) := by
    rw [UInt8.toNat_ofNat']
    simp [IntKind.wrap, IntKind.bits, IntKind.signed]
  rw [this]
theorem wf_nat {k : IntKind} {a : Int} (h : (Lit.int k a).wf = true) (hk : k.min = 0) : ∃ t : Nat, a = (t : Int) ∧ (t : Int) ≤ k.max := by
  have h' : k.min ≤ a ∧ a ≤ k.max := by simpa [Lit.wf] using h
  obtain ⟨t, rfl⟩ := Int.eq_ofNat_of_zero_le (show 0 ≤ a by omega)
  exact ⟨t, rfl, h'.2⟩
theorem bytes_row {bs : List UInt8} {k : Nat} {x : UInt8} (h : bs[k]? = some x) : ((bytesV bs).drop (k * 1)).take 1 = [.int .u8 (x.toNat : Int)] := by
  rw [Nat.mul_one]
  have : (bytesV bs)[k]? = some (.int .u8 (x.toNat : Int)) := by simp [bytesV, byteV, h]
  obtain ⟨hl, he⟩ := List.getElem?_eq_some_iff.1 this
  rw [List.drop_eq_getElem_cons hl, List.take_succ_cons, List.take_zero, he]
end
end Go.Sl
