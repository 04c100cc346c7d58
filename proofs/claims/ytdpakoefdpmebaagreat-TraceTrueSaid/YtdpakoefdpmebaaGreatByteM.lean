/-
  Numbers by their bytes; sums of bytes. Plain, and the steps of numbers that these need. No program is named here.
-/
import Derived.Test.YtdpakoefdpmebaaGreatSlB
namespace Go.Sl
open Go
set_option linter.unusedVariables false
section
variable {P : Program} {w : World} {ρ : Operand → Value} {d : Option Nat} {ty : TypeId} {pos : String} {af : Array Edge} {g : Option (Nat × Bool)}
theorem run_compl32 {t : TypeId} {x : Operand} {m : Nat} (hx : ρ x = .int .u32 (m : Int)) (hm : m < 4294967296) :
    (execOp ρ ⟨d, .unOp .xor t x, ty, pos, af, g⟩).run P w = .ok (.value (.int .u32 ((4294967295 ^^^ m : Nat) : Int))) w := by
  have h1 : (BitVec.ofInt 32 (IntKind.u32.max) ^^^ BitVec.ofInt 32 (m : Int)).toNat = 4294967295 ^^^ m := by
    rw [BitVec.toNat_xor, BitVec.toNat_ofInt, BitVec.toNat_ofInt]
    have e1 : ((IntKind.u32.max % ((2 ^ 32 : Nat) : Int)).toNat) = 4294967295 := by decide
    have e2 : (((m : Int) % ((2 ^ 32 : Nat) : Int)).toNat) = m := by omega
    rw [e1, e2]
  have h2 : (4294967295 ^^^ m) < 2 ^ 32 := Nat.xor_lt_two_pow (by decide) (by omega)
  have h3 : IntKind.wrap .u32 ((4294967295 ^^^ m : Nat) : Int) = ((4294967295 ^^^ m : Nat) : Int) := wrap_in _ (by show (0 : Int) ≤ _; omega) (by show _ ≤ (4294967295 : Int); omega)
  have h5 : IntKind.u32.signed = false := rfl
  have h1' : (BitVec.ofInt IntKind.u32.bits IntKind.u32.max ^^^ BitVec.ofInt IntKind.u32.bits (m : Int)).toNat = 4294967295 ^^^ m := h1
  simp only [execOp, hx, Op.unary, Op.intBits, h5, Bool.false_eq_true, if_false, Sem.run_bind, Sem.run_pure, Result.andThen_ok, h1', h3]
theorem run_negBit {t : TypeId} {x : Operand} {m : Nat} (hx : ρ x = .int .u32 (m : Int)) (hm : m < 2) :
    (execOp ρ ⟨d, .unOp .neg t x, ty, pos, af, g⟩).run P w = .ok (.value (.int .u32 ((m * 4294967295 : Nat) : Int))) w := by
  have h : m = 0 ∨ m = 1 := by omega
  rcases h with rfl | rfl
  · simp [execOp, hx, Op.unary, Op.intArith, IntKind.wrap, IntKind.signed, IntKind.bits]
  · simp [execOp, hx, Op.unary, Op.intArith, IntKind.wrap, IntKind.signed, IntKind.bits]
end
end Go.Sl
namespace Go.Sl.ByM
open Go Go.Sl
set_option linter.unusedVariables false
/-! ### Numbers -/
def putK (v n k : Nat) : List UInt8 := (List.range k).map fun (q : Nat) => UInt8.ofNat (v / 2 ^ (8 * (n - 1 - q)))
theorem putK_length (v n k : Nat) : (putK v n k).length = k := by simp [putK]
theorem putK_succ (v n k : Nat) : putK v n (k + 1) = putK v n k ++ [UInt8.ofNat (v / 2 ^ (8 * (n - 1 - k)))] := by simp [putK, List.range_succ]
abbrev be (v n : Nat) : List UInt8 := putK v n n
theorem be_length (v n : Nat) : (be v n).length = n := putK_length v n n
def beV (bs : List UInt8) : Nat := bs.foldl (fun v c => v * 256 + c.toNat) 0
theorem beV_snoc (bs : List UInt8) (c : UInt8) : beV (bs ++ [c]) = beV bs * 256 + c.toNat := by simp [beV]
theorem beV_lt (bs : List UInt8) : beV bs < 256 ^ bs.length := by
  rw [← List.reverse_reverse bs]
  generalize bs.reverse = l
  induction l with
  | nil => decide
  | cons c l ih =>
    rw [List.reverse_cons, beV_snoc, List.length_append, List.length_singleton, Nat.pow_succ]
    have := c.toNat_lt
    omega
theorem pow_256 (k : Nat) : 256 ^ k = 2 ^ (8 * k) := by rw [Nat.pow_mul]
theorem beV_putK (v n : Nat) : ∀ k, k ≤ n → beV (putK v n k) = v / 2 ^ (8 * (n - k)) % 256 ^ k
  | 0, _ => by simp [putK, beV, Nat.mod_one]
  | k + 1, h => by
    rw [putK_succ, beV_snoc, beV_putK v n k (by omega), show n - 1 - k = n - (k + 1) by omega]
    rw [UInt8.toNat_ofNat']
    have e : 8 * (n - k) = 8 * (n - (k + 1)) + 8 := by omega
    rw [e, Nat.pow_add, ← Nat.div_div_eq_div_mul]
    generalize v / 2 ^ (8 * (n - (k + 1))) = x
    rw [Nat.pow_succ]
    have h1 : x / 2 ^ 8 % 256 ^ k * 256 + x % 256 = x % (256 ^ k * 256) := by
      rw [Nat.mul_comm (256 ^ k) 256, Nat.mod_mul, show (2 : Nat) ^ 8 = 256 from rfl]
      omega
    exact h1
theorem beV_be {v n : Nat} (h : v < 256 ^ n) : beV (be v n) = v := by
  unfold be
  rw [beV_putK v n n (Nat.le_refl _), Nat.sub_self]
  simp
  exact Nat.mod_eq_of_lt h
theorem be_inj {a b n : Nat} (ha : a < 256 ^ n) (hb : b < 256 ^ n) (h : be a n = be b n) : a = b := by rw [← beV_be ha, ← beV_be hb, h]
theorem or_byte (v : Nat) (c : UInt8) : v * 256 ||| c.toNat = v * 256 + c.toNat := by
  have h : c.toNat < 2 ^ 8 := by have := c.toNat_lt; omega
  have := Nat.two_pow_add_eq_or_of_lt (i := 8) h v
  rw [Nat.mul_comm v 256]
  exact this.symm
/-! ### Sums -/
def poly : Nat := 2197175160
def sN (v : Nat) : Nat := (v >>> 1) ^^^ (if v.testBit 0 then poly else 0)
def s4 (v : Nat) : Nat := sN (sN (sN (sN v)))
theorem sN_lin (a b : Nat) : sN (a ^^^ b) = sN a ^^^ sN b := by
  unfold sN
  rw [Nat.shiftRight_xor_distrib, Nat.testBit_xor]
  cases a.testBit 0 <;> cases b.testBit 0
  · simp
  · simp [Nat.xor_assoc]
  · simp only [Bool.xor_false, if_true, Bool.false_eq_true, if_false, Nat.xor_zero]
    rw [Nat.xor_assoc, Nat.xor_assoc, Nat.xor_comm (b >>> 1)]
  · simp only [Bool.xor_self, Bool.false_eq_true, if_false, if_true, Nat.xor_zero]
    rw [Nat.xor_assoc, ← Nat.xor_assoc poly, Nat.xor_comm poly, Nat.xor_assoc, Nat.xor_self, Nat.xor_zero]
theorem s4_lin (a b : Nat) : s4 (a ^^^ b) = s4 a ^^^ s4 b := by
  unfold s4
  rw [sN_lin, sN_lin, sN_lin, sN_lin]
theorem sN_shift (x k : Nat) : sN (x <<< (k + 1)) = x <<< k := by
  unfold sN
  have h : (x <<< (k + 1)).testBit 0 = false := by rw [Nat.testBit_shiftLeft]; simp
  rw [h]
  simp only [Bool.false_eq_true, if_false, Nat.xor_zero]
  apply Nat.eq_of_testBit_eq
  intro i
  rw [Nat.testBit_shiftRight, Nat.testBit_shiftLeft, Nat.testBit_shiftLeft]
  by_cases hk : k ≤ i
  · simp [hk, show k + 1 ≤ 1 + i by omega, show 1 + i - (k + 1) = i - k by omega]
  · simp [hk, show ¬ k + 1 ≤ 1 + i by omega]
theorem s4_shift (x : Nat) : s4 (x <<< 4) = x := by
  unfold s4
  rw [sN_shift x 3, sN_shift x 2, sN_shift x 1, sN_shift x 0]
  simp
theorem nibble (v : Nat) : v = ((v >>> 4) <<< 4) ^^^ (v % 16) := by
  apply Nat.eq_of_testBit_eq
  intro i
  rw [Nat.testBit_xor, Nat.testBit_shiftLeft, Nat.testBit_shiftRight]
  have e : v % 16 = v % 2 ^ 4 := rfl
  rw [e, Nat.testBit_mod_two_pow]
  by_cases h : 4 ≤ i
  · simp [h, show ¬ i < 4 by omega, show 4 + (i - 4) = i by omega]
  · simp [h, show i < 4 by omega]
/-- Half a byte by a table. -/
theorem s4_table (v : Nat) : (v >>> 4) ^^^ s4 (v % 16) = s4 v := by
  conv => rhs; rw [nibble v, s4_lin, s4_shift]
theorem sN_lt {v : Nat} (h : v < 4294967296) : sN v < 4294967296 := by
  unfold sN
  have h1 : v >>> 1 < 2 ^ 32 := by rw [Nat.shiftRight_eq_div_pow]; omega
  split
  · exact Nat.xor_lt_two_pow h1 (by decide)
  · rw [Nat.xor_zero]; exact h1
theorem s4_lt {v : Nat} (h : v < 4294967296) : s4 v < 4294967296 := sN_lt (sN_lt (sN_lt (sN_lt h)))
def crcB (v : Nat) (c : UInt8) : Nat := s4 (s4 (v ^^^ c.toNat))
theorem crcB_lt {v : Nat} (h : v < 4294967296) (c : UInt8) : crcB v c < 4294967296 := s4_lt (s4_lt (Nat.xor_lt_two_pow (n := 32) h (by have := c.toNat_lt; omega)))
def crcR (v : Nat) (bs : List UInt8) : Nat := bs.foldl crcB v
theorem crcR_lt {v : Nat} (h : v < 4294967296) (bs : List UInt8) : crcR v bs < 4294967296 := by
  induction bs generalizing v with
  | nil => exact h
  | cons c bs ih => exact ih (crcB_lt h c)
theorem crcR_snoc (v : Nat) (bs : List UInt8) (c : UInt8) : crcR v (bs ++ [c]) = crcB (crcR v bs) c := by simp [crcR]
def crcS (bs : List UInt8) : Nat := 4294967295 ^^^ crcR 4294967295 bs
theorem crcS_lt (bs : List UInt8) : crcS bs < 4294967296 := Nat.xor_lt_two_pow (n := 32) (by decide) (crcR_lt (by decide) bs)
def four (s : Nat) : List UInt8 := [UInt8.ofNat s, UInt8.ofNat (s / 2 ^ 8), UInt8.ofNat (s / 2 ^ 16), UInt8.ofNat (s / 2 ^ 24)]
theorem four_length (s : Nat) : (four s).length = 4 := rfl
def sealB (bs : List UInt8) : List UInt8 := bs ++ four (crcS bs)
def openB (bs : List UInt8) : List UInt8 × Int := if bs.length < 4 then ([], 3) else if four (crcS (bs.take (bs.length - 4))) ≠ bs.drop (bs.length - 4) then ([], 4) else (bs.take (bs.length - 4), 0)
def padB (bs : List UInt8) (n : Nat) : List UInt8 := bs ++ List.replicate (n - bs.length) 0
theorem tab16 : (List.range 16).map s4 = (List.range 16).map s4 := rfl
/-- A step of the program's. -/
theorem step_mask (v : Nat) : (v / 2 ^ 1) ^^^ ((v % 2 ^ 1 * 4294967295) &&& poly) = sN v := by
  unfold sN
  rw [Nat.shiftRight_eq_div_pow]
  congr 1
  rw [Nat.testBit_zero]
  have h : v % 2 = 0 ∨ v % 2 = 1 := by omega
  rcases h with h | h
  · simp [h]
  · simp [h]; decide
end Go.Sl.ByM
namespace Go.Sl.ByM
open Go Go.Sl
/-- A part of a row of bytes. -/
theorem cut_bytes {L : List HProp} {a : Option Addr} {c l h : Nat} {bs : List UInt8} (g : Gives L (Bytes (.slice a bs.length c) bs)) (hc : bs.length ≤ c) (h1 : l ≤ h) (h2 : h ≤ bs.length) :
    ∃ a' c', sliced a l h c 1 = .slice a' ((bs.drop l).take (h - l)).length c' ∧ Gives L (Bytes (.slice a' ((bs.drop l).take (h - l)).length c') ((bs.drop l).take (h - l))) := by
  have hlen : ((bs.drop l).take (h - l)).length = h - l := by rw [List.length_take, List.length_drop]; omega
  refine ⟨(if c = l then a else a.map (·.add (l * 1))), c - l, by rw [hlen]; rfl, fun hh H => ?_⟩
  have c1 := (g hh H).cut (l := l) (h := h) (m := c) h1 h2 (by omega) (Nat.le_refl _)
  have e : ((bytesV bs).drop (l * 1)).take ((h - l) * 1) = bytesV ((bs.drop l).take (h - l)) := by
    unfold bytesV
    rw [List.map_take, List.map_drop, Nat.mul_one, Nat.mul_one]
  rw [e] at c1
  unfold Bytes
  rw [hlen]
  exact c1
/-- A front of it. -/
theorem front_bytes {L : List HProp} {a : Option Addr} {c h : Nat} {bs : List UInt8} (g : Gives L (Bytes (.slice a bs.length c) bs)) (h2 : h ≤ bs.length) :
    Gives L (Bytes (.slice a (bs.take h).length c) (bs.take h)) := fun hh H => by
  have hlen : (bs.take h).length = h := by rw [List.length_take]; omega
  have c1 := (g hh H).front (k := h) h2
  have e : (bytesV bs).take (h * 1) = bytesV (bs.take h) := by unfold bytesV; rw [List.map_take, Nat.mul_one]
  rw [e] at c1
  unfold Bytes
  rw [hlen]
  exact c1
/-- The table. -/
def tabL (i : Nat) : List Value := (List.range 16).map fun j => .int .u32 ((if j < i then s4 j else 0 : Nat) : Int)
theorem tabL_set (i : Nat) (hi : i < 16) : (tabL i).set (i * 1) (.int .u32 (s4 i : Int)) = tabL (i + 1) := by
  rw [Nat.mul_one]
  unfold tabL
  apply List.ext_getElem
  · simp
  · intro j h1 h2
    simp at h1
    rw [List.getElem_set]
    by_cases hj : i = j
    · subst hj; simp
    · simp only [hj, if_false, List.getElem_map, List.getElem_range]
      by_cases h3 : j < i
      · simp [h3, show j < i + 1 by omega]
      · simp [h3, show ¬ j < i + 1 by omega]
theorem tabL_length (i : Nat) : (tabL i).length = 16 := by simp [tabL]
theorem tabL_one (i : Nat) : ∀ u ∈ tabL i, u.oneCell' = true := by
  intro u hu
  obtain ⟨j, _, rfl⟩ := List.mem_map.1 hu
  rfl
theorem tab_row {i : Nat} (h : i < 16) : ((tabL 16).drop (i * 1)).take 1 = [.int .u32 (s4 i : Int)] := by
  rw [Nat.mul_one, List.drop_eq_getElem_cons (by rw [tabL_length]; exact h), List.take_succ_cons, List.take_zero]
  simp [tabL, h]
theorem take_splice0 {z vs : List Value} (h : z.length = vs.length) : splice z 0 vs = vs := by
  unfold splice
  rw [List.take_zero, List.nil_append, Nat.zero_add, ← h, List.drop_length, List.append_nil]
theorem s4_step (v : Nat) : (v / 2 ^ 4) ^^^ s4 (v % 2 ^ 4) = s4 v := by
  have := s4_table v
  rw [Nat.shiftRight_eq_div_pow] at this
  exact this
def itS : Nat → Nat → Nat
  | 0, v => v
  | k + 1, v => sN (itS k v)
theorem itS_lt {v : Nat} (h : v < 4294967296) : ∀ k, itS k v < 4294967296
  | 0 => h
  | k + 1 => sN_lt (itS_lt h k)
theorem itS8 (v : Nat) : itS 8 v = s4 (s4 v) := rfl
theorem itS4 (v : Nat) : itS 4 v = s4 v := rfl
theorem sN_odd {v : Nat} (h : v % 2 ^ 1 = 1) : (v / 2 ^ 1) ^^^ 2197175160 = sN v := by
  unfold sN
  rw [Nat.shiftRight_eq_div_pow, Nat.testBit_zero]
  have : v % 2 = 1 := h
  simp [this, poly]
theorem sN_even {v : Nat} (h : ¬ v % 2 ^ 1 = 1) : v / 2 ^ 1 = sN v := by
  unfold sN
  rw [Nat.shiftRight_eq_div_pow, Nat.testBit_zero]
  have : ¬ v % 2 = 1 := h
  simp [this]
end Go.Sl.ByM
namespace Go.Sl
open Go
section
variable {P : Program} {w : World} {ρ : Operand → Value} {d : Option Nat} {ty : TypeId} {pos : String} {af : Array Edge} {g : Option (Nat × Bool)}
theorem run_subNV {t yt : TypeId} {x y : Operand} {m n r : Nat} (hx : ρ x = .int .i64 (m : Int)) (hy : ρ y = .int .i64 (n : Int)) (h : n ≤ m) (h' : m ≤ 9223372036854775807) (hr : m - n = r) : (execOp ρ ⟨d, .binOp .sub t x y yt, ty, pos, af, g⟩).run P w = .ok (.value (.int .i64 (r : Int))) w := by
  rw [← hr]; exact run_subN hx hy h h'
theorem run_addNV {t yt : TypeId} {x y : Operand} {m n r : Nat} (hx : ρ x = .int .i64 (m : Int)) (hy : ρ y = .int .i64 (n : Int)) (h : m + n ≤ 9223372036854775807) (hr : m + n = r) : (execOp ρ ⟨d, .binOp .add t x y yt, ty, pos, af, g⟩).run P w = .ok (.value (.int .i64 (r : Int))) w := by
  rw [← hr]; exact run_addN hx hy h
end
end Go.Sl
namespace Go.Sl
open Go
section
variable {P : Program} {w : World} {ρ : Operand → Value} {d : Option Nat} {ty : TypeId} {pos : String} {af : Array Edge} {g : Option (Nat × Bool)}
theorem run_mulK {t yt : TypeId} {x y : Operand} {k : IntKind} {m n : Nat} (hx : ρ x = .int k (m : Int)) (hy : ρ y = .int k (n : Int)) (hm : ((m * n : Nat) : Int) ≤ k.max) :
    (execOp ρ ⟨d, .binOp .mul t x y yt, ty, pos, af, g⟩).run P w = .ok (.value (.int k ((m * n : Nat) : Int))) w := by
  have h0 : k.min ≤ 0 := by cases k <;> decide
  rw [run_mulW hx hy, ← Int.natCast_mul, wrap_in _ (by omega) (by omega)]
end
end Go.Sl
namespace Go.Sl
open Go
section
variable {P : Program} {w : World} {ρ : Operand → Value} {d : Option Nat} {ty : TypeId} {pos : String} {af : Array Edge} {g : Option (Nat × Bool)}
/-- Texts that differ, by their bytes. -/
theorem run_neqStrD {t yt : TypeId} {x y : Operand} {a b : List UInt8} (hx : ρ x = .string ⟨a.toArray⟩) (hy : ρ y = .string ⟨b.toArray⟩) : (execOp ρ ⟨d, .binOp .neq t x y yt, ty, pos, af, g⟩).run P w = .ok (.value (.bool (decide (a ≠ b)))) w := by
  rw [run_neqStr hx hy, Go.ByteArray.toList_eq, Go.ByteArray.toList_eq]
  simp
theorem run_eqlStrD {t yt : TypeId} {x y : Operand} {a b : List UInt8} (hx : ρ x = .string ⟨a.toArray⟩) (hy : ρ y = .string ⟨b.toArray⟩) : (execOp ρ ⟨d, .binOp .eql t x y yt, ty, pos, af, g⟩).run P w = .ok (.value (.bool (decide (a = b)))) w := by
  rw [run_eqlStr hx hy, Go.ByteArray.toList_eq, Go.ByteArray.toList_eq]
theorem run_cutHV {t e size n c h r : Nat} {kh : IntKind} {x y : Operand} {a : Option Addr} (hU : P.underlying t = some (.slice e)) (hS : ∀ w, (sizeOf e).run P w = .ok size w) (hx : ρ x = .slice a n c) (hy : ρ y = .int kh h) (h1 : h ≤ c) (hr : h = r) :
    (execOp ρ ⟨d, .slice t x none (some y) none, ty, pos, af, g⟩).run P w = .ok (.value (.slice a r c)) w := by rw [← hr]; exact run_cutH hU hS hx hy h1
end
end Go.Sl
