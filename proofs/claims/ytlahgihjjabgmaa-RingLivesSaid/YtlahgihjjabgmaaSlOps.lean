/-
  What each operation does, as an equation on its run; of those that change memory: what becomes of the list.
-/
import Derived.Test.YtlahgihjjabgmaaSlMem
namespace Go.Sl
open Go
set_option linter.unusedVariables false

section
variable {P : Program} {W0 w : World} {L : List HProp} {ρ : Operand → Value} {d : Option Nat} {ty : TypeId} {pos : String} {af : Array Edge} {g : Option (Nat × Bool)}

theorem run_move {x : Operand} : (execOp ρ ⟨d, .move x, ty, pos, af, g⟩).run P w = .ok (.value (ρ x)) w := rfl
theorem run_assign {x : Operand} : (execOp ρ ⟨d, .assign x, ty, pos, af, g⟩).run P w = .ok (.value (ρ x)) w := rfl
theorem run_pickT {c a b : Operand} (h : ρ c = .bool true) : (execOp ρ ⟨d, .pick c a b, ty, pos, af, g⟩).run P w = .ok (.value (ρ a)) w := by
  simp [execOp, h, asBool]
theorem run_pickF {c a b : Operand} (h : ρ c = .bool false) : (execOp ρ ⟨d, .pick c a b, ty, pos, af, g⟩).run P w = .ok (.value (ρ b)) w := by
  simp [execOp, h, asBool]
/-- 'a && b', undecided: its value. -/
theorem run_pickAnd {c a : Operand} {k : Value} {p q : Bool} (h : ρ c = .bool p) (ha : ρ a = .bool q) (h' : p = true) : (execOp ρ ⟨d, .pick c a (.const k), ty, pos, af, g⟩).run P w = .ok (.value (.bool q)) w := by
  simp [execOp, h, asBool, h', ha]
theorem run_nilCheck {x : Operand} {a : Addr} (h : ρ x = .pointer (some a)) : (execOp ρ ⟨d, .nilCheck x, ty, pos, af, g⟩).run P w = .ok (.value (.pointer (some a))) w := by
  simp [execOp, h]
theorem run_nilCheckF {x : Operand} {f : FuncId} {a c : Array Value} (h : ρ x = .func (.func f) a c) : (execOp ρ ⟨d, .nilCheck x, ty, pos, af, g⟩).run P w = .ok (.value (.func (.func f) a c)) w := by
  simp [execOp, h]
theorem run_extract {x : Operand} {i : Nat} {vs : List Value} {v : Value} (h : ρ x = .tuple vs.toArray) (hv : vs[i]? = some v) : (execOp ρ ⟨d, .extract x i, ty, pos, af, g⟩).run P w = .ok (.value v) w := by
  simp [execOp, h, Instr.extract, hv]
theorem run_not {x : Operand} {t : TypeId} {b : Bool} (h : ρ x = .bool b) : (execOp ρ ⟨d, .unOp .not t x, ty, pos, af, g⟩).run P w = .ok (.value (.bool !b)) w := by
  simp [execOp, h, Op.unary]

/-! ### Addresses -/
theorem run_fieldAddr {s fi n b o : Nat} (off : Nat) {x : Operand} {fs : Array Field} {f : Field} (hU : P.underlying s = some (.struct fs)) (hf : fs[fi]? = some f) (hS : ∀ w, (sizeOf f.type).run P w = .ok (n + 1) w) (h : ρ x = .pointer (some ⟨b, o, none⟩)) (ho : f.offset = off) :
    (execOp ρ ⟨d, .fieldAddr s x fi, ty, pos, af, g⟩).run P w = .ok (.value (.pointer (some ⟨b, o + off, none⟩))) w := by
  subst ho
  simp [execOp, Instr.fieldAt, run_underlying hU, hf, h, Instr.sureAddr, fieldPlace, hS, Addr.add_mk]
theorem run_indexAddr {t e size n c b o : Nat} {x y : Operand} {k : IntKind} {i : Int} (hU : P.underlying t = some (.slice e)) (hS : ∀ w, (sizeOf e).run P w = .ok size w)
    (hx : ρ x = .slice (some ⟨b, o, none⟩) n c) (hy : ρ y = .int k i) (h0 : 0 ≤ i) (h1 : i < n) :
    (execOp ρ ⟨d, .indexAddr t x y, ty, pos, af, g⟩).run P w = .ok (.value (.pointer (some ⟨b, o + i.toNat * size, none⟩))) w := by
  simp [execOp, Instr.indexAt, run_underlying hU, hx, hy, asIntOf, hS, h0, h1, Addr.add_mk]
theorem run_indexAddrArr {t e size n b o : Nat} {x y : Operand} {k : IntKind} {i : Int} (hU : P.underlying t = some (.array n e)) (hS : ∀ w, (sizeOf e).run P w = .ok size w)
    (hx : ρ x = .pointer (some ⟨b, o, none⟩)) (hy : ρ y = .int k i) (h0 : 0 ≤ i) (h1 : i < n) :
    (execOp ρ ⟨d, .indexAddr t x y, ty, pos, af, g⟩).run P w = .ok (.value (.pointer (some ⟨b, o + i.toNat * size, none⟩))) w := by
  simp [execOp, Instr.indexAt, run_underlying hU, hx, hy, asIntOf, hS, h0, h1, Addr.add_mk, Instr.sureAddr]

/-! ### Loads and stores -/
theorem run_load1 {t : TypeId} {x : Operand} {a : Addr} {v : Value} (hA : ∀ w, (isAgg t).run P w = .ok false w) (h : ρ x = .pointer (some a)) (hc : w.cell? a = some v) :
    (execOp ρ ⟨d, .load t x, ty, pos, af, g⟩).run P w = .ok (.value v) w := by
  simp [execOp, Instr.loadAt, h, Instr.sureAddr, loadVar, hA, hc]
theorem run_loadN {t n b o : Nat} {x : Operand} {vs : List Value} (hA : ∀ w, (isAgg t).run P w = .ok true w) (hS : ∀ w, (sizeOf t).run P w = .ok n w) (h : ρ x = .pointer (some ⟨b, o, none⟩)) (hl : vs.length = n)
    (hc : ∀ j u, vs[j]? = some u → w.cell? ⟨b, o + j, none⟩ = some u) :
    (execOp ρ ⟨d, .load t x, ty, pos, af, g⟩).run P w = .ok (.value (.agg vs.toArray)) w := by
  have := run_loadCells_list (P := P) w ⟨b, o, none⟩ vs (fun j v hv => by rw [Addr.add_mk]; exact hc j v hv)
  rw [hl] at this
  simp [execOp, Instr.loadAt, h, Instr.sureAddr, loadVar, hA, hS, this]

theorem cells_one {v : Value} (h : v.oneCell' = true) : v.cells = #[v] := by cases v <;> simp_all [Value.oneCell', Value.cells]

theorem run_storeOne {t b o : Nat} {x y : Operand} {v : Value} {l : List Value} {e : Nat} {fr : Nat × Nat} (hS : ∀ w, (sizeOf t).run P w = .ok 1 w) (h : ρ x = .pointer (some ⟨b, o, none⟩)) (hy : ρ y = v) (hv : v.oneCell' = true)
    (hb : w.heap[b]? = some (obj l e fr)) (hlt : Nat.ble (o + 1) l.length = true) (hf : free fr o = true) :
    (execOp ρ ⟨d, .store t x y, ty, pos, af, g⟩).run P w = .ok .skip (w.setCell ⟨b, o, none⟩ v) := by
  have hst := run_store1 (P := P) hb (Nat.le_of_ble_eq_true hlt) hf hv
  simp [execOp, Instr.storeAt, h, hy, Instr.sureAddr, storeVar, hS, cells_one hv, storeCells, Addr.add_mk, hst]

theorem run_storeN {t n b o i : Nat} {x y : Operand} {vs : List Value} {l : List Value} {e : Nat} {fr : Nat × Nat} (H : On W0 L w) (hi : L[i]? = some (blk b l e fr)) (hS : ∀ w, (sizeOf t).run P w = .ok n w) (h : ρ x = .pointer (some ⟨b, o, none⟩)) (hy : ρ y = .agg vs.toArray) (hn : vs.length = n)
    (hv : ∀ v ∈ vs, v.oneCell' = true) (hlt : o + n ≤ l.length) (hf : ∀ k, o ≤ k → k < o + n → free fr k = true) :
    ∃ w', (execOp ρ ⟨d, .store t x y, ty, pos, af, g⟩).run P w = .ok .skip w' ∧ On W0 (L.set i (blk b (splice l o vs) e fr)) w' := by
  obtain ⟨w', hst, hO⟩ := H.storeCells (P := P) i hi o vs (by omega) hv (by rw [hn]; exact hf)
  refine ⟨w', ?_, hO⟩
  simp [execOp, Instr.storeAt, h, hy, Instr.sureAddr, storeVar, hS, Value.cells, hn, hst]

/-! ### New memory -/
theorem run_alloc {t : Nat} {z : Value} (hZ : ∀ w, (zeroValue t).run P w = .ok z w) :
    (execOp ρ ⟨d, .alloc t, ty, pos, af, g⟩).run P w = .ok (.value (.pointer (some ⟨w.heap.size, 0, none⟩))) (w.alloc (.cells z.cells t)) := by
  simp [execOp, Instr.alloc, hZ, newVar, newRow]
theorem run_box {t : Nat} {x : Operand} {v : Value} (h : ρ x = v) :
    (execOp ρ ⟨d, .box t x, ty, pos, af, g⟩).run P w = .ok (.value (.pointer (some ⟨w.heap.size, 0, none⟩))) (w.alloc (.cells v.cells t)) := by
  simp [execOp, Instr.box, h, newVar, newRow]
theorem run_build {t : Nat} {ps : Array (Nat × Operand)} {v : Value} (h : ∀ w, (Instr.build t (ps.map fun (i, x) => (i, ρ x))).run P w = .ok v w) :
    (execOp ρ ⟨d, .build t ps, ty, pos, af, g⟩).run P w = .ok (.value v) w := by
  simp [execOp, h]

/-! ### Numbers -/
theorem wrap_in (k : IntKind) {n : Int} (h : k.min ≤ n) (h' : n ≤ k.max) : k.wrap n = n := by
  cases k <;> simp only [IntKind.min, IntKind.max, IntKind.signed, IntKind.bits] at h h' <;> simp at h h'
  · exact IntWalk.i8_in n ⟨by omega, by omega⟩
  · exact IntWalk.i16_in n ⟨by omega, by omega⟩
  · exact IntWalk.i32_in n ⟨by omega, by omega⟩
  · exact IntWalk.i64_in n ⟨by omega, by omega⟩
  · exact IntWalk.u8_in n ⟨by omega, by omega⟩
  · exact IntWalk.u16_in n ⟨by omega, by omega⟩
  · exact IntWalk.u32_in n ⟨by omega, by omega⟩
  · exact IntWalk.u64_in n ⟨by omega, by omega⟩

section
variable {t yt : TypeId} {x y : Operand} {k : IntKind} {m n : Int}
theorem run_addW (hx : ρ x = .int k m) (hy : ρ y = .int k n) : (execOp ρ ⟨d, .binOp .add t x y yt, ty, pos, af, g⟩).run P w = .ok (.value (.int k (k.wrap (m + n)))) w := by
  simp [execOp, eqGuard, hx, hy, binOp, Op.intArith]
theorem run_subW (hx : ρ x = .int k m) (hy : ρ y = .int k n) : (execOp ρ ⟨d, .binOp .sub t x y yt, ty, pos, af, g⟩).run P w = .ok (.value (.int k (k.wrap (m - n)))) w := by
  simp [execOp, eqGuard, hx, hy, binOp, Op.intArith]
theorem run_mulW (hx : ρ x = .int k m) (hy : ρ y = .int k n) : (execOp ρ ⟨d, .binOp .mul t x y yt, ty, pos, af, g⟩).run P w = .ok (.value (.int k (k.wrap (m * n)))) w := by
  simp [execOp, eqGuard, hx, hy, binOp, Op.intArith]
theorem run_add (hx : ρ x = .int .i64 m) (hy : ρ y = .int .i64 n) (h : -9223372036854775808 ≤ m + n) (h' : m + n ≤ 9223372036854775807) : (execOp ρ ⟨d, .binOp .add t x y yt, ty, pos, af, g⟩).run P w = .ok (.value (.int .i64 (m + n))) w := by
  rw [run_addW hx hy, IntWalk.i64_in _ ⟨h, h'⟩]
theorem run_sub (hx : ρ x = .int .i64 m) (hy : ρ y = .int .i64 n) (h : -9223372036854775808 ≤ m - n) (h' : m - n ≤ 9223372036854775807) : (execOp ρ ⟨d, .binOp .sub t x y yt, ty, pos, af, g⟩).run P w = .ok (.value (.int .i64 (m - n))) w := by
  rw [run_subW hx hy, IntWalk.i64_in _ ⟨h, h'⟩]
theorem run_addN {m n : Nat} (hx : ρ x = .int .i64 (m : Int)) (hy : ρ y = .int .i64 (n : Int)) (h : m + n ≤ 9223372036854775807) : (execOp ρ ⟨d, .binOp .add t x y yt, ty, pos, af, g⟩).run P w = .ok (.value (.int .i64 ((m + n : Nat) : Int))) w := by
  rw [run_add hx hy (by omega) (by omega)]; rfl
theorem run_incN {m : Nat} (hx : ρ x = .int .i64 (m : Int)) (hy : ρ y = .int .i64 1) (h : m + 1 ≤ 9223372036854775807) : (execOp ρ ⟨d, .binOp .add t x y yt, ty, pos, af, g⟩).run P w = .ok (.value (.int .i64 ((m + 1 : Nat) : Int))) w := by
  rw [run_add hx hy (by omega) (by omega)]; rfl
theorem run_subN {m n : Nat} (hx : ρ x = .int .i64 (m : Int)) (hy : ρ y = .int .i64 (n : Int)) (h : n ≤ m) (h' : m ≤ 9223372036854775807) : (execOp ρ ⟨d, .binOp .sub t x y yt, ty, pos, af, g⟩).run P w = .ok (.value (.int .i64 ((m - n : Nat) : Int))) w := by
  rw [run_sub hx hy (by omega) (by omega), Int.ofNat_sub h]
theorem run_mulN {m n : Nat} (hx : ρ x = .int .i64 (m : Int)) (hy : ρ y = .int .i64 (n : Int)) (h : m * n ≤ 9223372036854775807) : (execOp ρ ⟨d, .binOp .mul t x y yt, ty, pos, af, g⟩).run P w = .ok (.value (.int .i64 ((m * n : Nat) : Int))) w := by
  rw [run_mulW hx hy, IntWalk.i64_in _ (by constructor <;> (rw [← Int.natCast_mul]; omega))]; rfl
theorem run_mul (hx : ρ x = .int .i64 m) (hy : ρ y = .int .i64 n) (h : -9223372036854775808 ≤ m * n) (h' : m * n ≤ 9223372036854775807) : (execOp ρ ⟨d, .binOp .mul t x y yt, ty, pos, af, g⟩).run P w = .ok (.value (.int .i64 (m * n))) w := by
  rw [run_mulW hx hy, IntWalk.i64_in _ ⟨h, h'⟩]
theorem run_quo (hx : ρ x = .int .i64 m) (hy : ρ y = .int .i64 n) (h : 0 ≤ m) (h2 : m ≤ 9223372036854775807) (h' : 1 ≤ n) : (execOp ρ ⟨d, .binOp .quo t x y yt, ty, pos, af, g⟩).run P w = .ok (.value (.int .i64 (m / n))) w := by
  have hn : n ≠ 0 := by omega
  simp [execOp, eqGuard, hx, hy, binOp, Op.intDiv, hn, IntWalk.i64_quo m n ⟨h, h2, h'⟩]
theorem run_rem (hx : ρ x = .int k m) (hy : ρ y = .int k n) (h : 0 ≤ m) (h' : n ≠ 0) : (execOp ρ ⟨d, .binOp .rem t x y yt, ty, pos, af, g⟩).run P w = .ok (.value (.int k (m % n))) w := by
  simp [execOp, eqGuard, hx, hy, binOp, Op.intDiv, h', Int.tmod_eq_emod_of_nonneg h]
theorem run_remT (hx : ρ x = .int k m) (hy : ρ y = .int k n) (h' : n ≠ 0) : (execOp ρ ⟨d, .binOp .rem t x y yt, ty, pos, af, g⟩).run P w = .ok (.value (.int k (m.tmod n))) w := by
  simp [execOp, eqGuard, hx, hy, binOp, Op.intDiv, h']
theorem run_and (hx : ρ x = .int k m) (hy : ρ y = .int k n) : (execOp ρ ⟨d, .binOp .and t x y yt, ty, pos, af, g⟩).run P w = .ok (.value (.int k (k.wrap (BitVec.ofInt k.bits m &&& BitVec.ofInt k.bits n).toNat))) w := by
  simp [execOp, eqGuard, hx, hy, binOp, Op.intBits]
theorem run_or (hx : ρ x = .int k m) (hy : ρ y = .int k n) : (execOp ρ ⟨d, .binOp .or t x y yt, ty, pos, af, g⟩).run P w = .ok (.value (.int k (k.wrap (BitVec.ofInt k.bits m ||| BitVec.ofInt k.bits n).toNat))) w := by
  simp [execOp, eqGuard, hx, hy, binOp, Op.intBits]
theorem run_xor (hx : ρ x = .int k m) (hy : ρ y = .int k n) : (execOp ρ ⟨d, .binOp .xor t x y yt, ty, pos, af, g⟩).run P w = .ok (.value (.int k (k.wrap (BitVec.ofInt k.bits m ^^^ BitVec.ofInt k.bits n).toNat))) w := by
  simp [execOp, eqGuard, hx, hy, binOp, Op.intBits]
theorem run_andNot (hx : ρ x = .int k m) (hy : ρ y = .int k n) : (execOp ρ ⟨d, .binOp .andNot t x y yt, ty, pos, af, g⟩).run P w = .ok (.value (.int k (k.wrap (BitVec.ofInt k.bits m &&& ~~~BitVec.ofInt k.bits n).toNat))) w := by
  simp [execOp, eqGuard, hx, hy, binOp, Op.intBits]
theorem run_shl {ky : IntKind} (hx : ρ x = .int k m) (hy : ρ y = .int ky n) (h : 0 ≤ n) : (execOp ρ ⟨d, .binOp .shl t x y yt, ty, pos, af, g⟩).run P w = .ok (.value (.int k (k.wrap (m * 2 ^ (min n.toNat k.bits))))) w := by
  have : ¬ n < 0 := by omega
  simp [execOp, eqGuard, hx, hy, binOp, Op.shift, this]
theorem run_shr {ky : IntKind} (hx : ρ x = .int k m) (hy : ρ y = .int ky n) (h : 0 ≤ n) : (execOp ρ ⟨d, .binOp .shr t x y yt, ty, pos, af, g⟩).run P w = .ok (.value (.int k (m.fdiv (2 ^ (min n.toNat k.bits))))) w := by
  have : ¬ n < 0 := by omega
  simp [execOp, eqGuard, hx, hy, binOp, Op.shift, this]

theorem run_lss (hx : ρ x = .int k m) (hy : ρ y = .int k n) : (execOp ρ ⟨d, .binOp .lss t x y yt, ty, pos, af, g⟩).run P w = .ok (.value (.bool (decide (m < n)))) w := by
  simp [execOp, eqGuard, hx, hy, binOp, Op.intCmp]
theorem run_leq (hx : ρ x = .int k m) (hy : ρ y = .int k n) : (execOp ρ ⟨d, .binOp .leq t x y yt, ty, pos, af, g⟩).run P w = .ok (.value (.bool (decide (m ≤ n)))) w := by
  simp [execOp, eqGuard, hx, hy, binOp, Op.intCmp]
theorem run_gtr (hx : ρ x = .int k m) (hy : ρ y = .int k n) : (execOp ρ ⟨d, .binOp .gtr t x y yt, ty, pos, af, g⟩).run P w = .ok (.value (.bool (decide (n < m)))) w := by
  simp [execOp, eqGuard, hx, hy, binOp, Op.intCmp]
theorem run_geq (hx : ρ x = .int k m) (hy : ρ y = .int k n) : (execOp ρ ⟨d, .binOp .geq t x y yt, ty, pos, af, g⟩).run P w = .ok (.value (.bool (decide (n ≤ m)))) w := by
  simp [execOp, eqGuard, hx, hy, binOp, Op.intCmp]
theorem run_eql (hx : ρ x = .int k m) (hy : ρ y = .int k n) : (execOp ρ ⟨d, .binOp .eql t x y yt, ty, pos, af, g⟩).run P w = .ok (.value (.bool (decide (m = n)))) w := by
  simp [execOp, eqGuard, hx, hy, binOp, Op.intCmp]
  rfl
theorem run_neq (hx : ρ x = .int k m) (hy : ρ y = .int k n) : (execOp ρ ⟨d, .binOp .neq t x y yt, ty, pos, af, g⟩).run P w = .ok (.value (.bool (decide (m ≠ n)))) w := by
  simp [execOp, eqGuard, hx, hy, binOp, Op.intCmp, bne]
  rfl
-- decided
theorem run_lssT (hx : ρ x = .int k m) (hy : ρ y = .int k n) (h : m < n) : (execOp ρ ⟨d, .binOp .lss t x y yt, ty, pos, af, g⟩).run P w = .ok (.value (.bool true)) w := by rw [run_lss hx hy]; simp [h]
theorem run_lssF (hx : ρ x = .int k m) (hy : ρ y = .int k n) (h : ¬ m < n) : (execOp ρ ⟨d, .binOp .lss t x y yt, ty, pos, af, g⟩).run P w = .ok (.value (.bool false)) w := by rw [run_lss hx hy]; simp [h]
theorem run_leqT (hx : ρ x = .int k m) (hy : ρ y = .int k n) (h : m ≤ n) : (execOp ρ ⟨d, .binOp .leq t x y yt, ty, pos, af, g⟩).run P w = .ok (.value (.bool true)) w := by rw [run_leq hx hy]; simp [h]
theorem run_leqF (hx : ρ x = .int k m) (hy : ρ y = .int k n) (h : ¬ m ≤ n) : (execOp ρ ⟨d, .binOp .leq t x y yt, ty, pos, af, g⟩).run P w = .ok (.value (.bool false)) w := by rw [run_leq hx hy]; simp [h]
theorem run_gtrT (hx : ρ x = .int k m) (hy : ρ y = .int k n) (h : n < m) : (execOp ρ ⟨d, .binOp .gtr t x y yt, ty, pos, af, g⟩).run P w = .ok (.value (.bool true)) w := by rw [run_gtr hx hy]; simp [h]
theorem run_gtrF (hx : ρ x = .int k m) (hy : ρ y = .int k n) (h : ¬ n < m) : (execOp ρ ⟨d, .binOp .gtr t x y yt, ty, pos, af, g⟩).run P w = .ok (.value (.bool false)) w := by rw [run_gtr hx hy]; simp [h]
theorem run_geqT (hx : ρ x = .int k m) (hy : ρ y = .int k n) (h : n ≤ m) : (execOp ρ ⟨d, .binOp .geq t x y yt, ty, pos, af, g⟩).run P w = .ok (.value (.bool true)) w := by rw [run_geq hx hy]; simp [h]
theorem run_geqF (hx : ρ x = .int k m) (hy : ρ y = .int k n) (h : ¬ n ≤ m) : (execOp ρ ⟨d, .binOp .geq t x y yt, ty, pos, af, g⟩).run P w = .ok (.value (.bool false)) w := by rw [run_geq hx hy]; simp [h]
theorem run_eqlT (hx : ρ x = .int k m) (hy : ρ y = .int k n) (h : m = n) : (execOp ρ ⟨d, .binOp .eql t x y yt, ty, pos, af, g⟩).run P w = .ok (.value (.bool true)) w := by rw [run_eql hx hy]; simp [h]
theorem run_eqlF (hx : ρ x = .int k m) (hy : ρ y = .int k n) (h : ¬ m = n) : (execOp ρ ⟨d, .binOp .eql t x y yt, ty, pos, af, g⟩).run P w = .ok (.value (.bool false)) w := by rw [run_eql hx hy]; simp [h]
theorem run_neqT (hx : ρ x = .int k m) (hy : ρ y = .int k n) (h : ¬ m = n) : (execOp ρ ⟨d, .binOp .neq t x y yt, ty, pos, af, g⟩).run P w = .ok (.value (.bool true)) w := by rw [run_neq hx hy]; simp [h]
theorem run_neqF (hx : ρ x = .int k m) (hy : ρ y = .int k n) (h : m = n) : (execOp ρ ⟨d, .binOp .neq t x y yt, ty, pos, af, g⟩).run P w = .ok (.value (.bool false)) w := by rw [run_neq hx hy]; simp [h]
end

/-! ### Conversions of numbers; bools compared; strings compared -/
theorem run_convInt {s t : TypeId} {x : Operand} {k j : IntKind} {n : Int} {ds : TypeDesc} (hs : P.underlying s = some ds) (ht : P.underlying t = some (.int k)) (hx : ρ x = .int j n) :
    (execOp ρ ⟨d, .convert s t x, ty, pos, af, g⟩).run P w = .ok (.value (.int k (k.wrap n))) w := by
  simp [execOp, convert, run_underlying hs, run_underlying ht, hx, Conv.intToInt]
theorem run_convInt64 {s t : TypeId} {x : Operand} {j : IntKind} {n : Int} {ds : TypeDesc} (hs : P.underlying s = some ds) (ht : P.underlying t = some (.int .i64)) (hx : ρ x = .int j n) (h : -9223372036854775808 ≤ n) (h' : n ≤ 9223372036854775807) :
    (execOp ρ ⟨d, .convert s t x, ty, pos, af, g⟩).run P w = .ok (.value (.int .i64 n)) w := by
  rw [run_convInt hs ht hx, IntWalk.i64_in _ ⟨h, h'⟩]

theorem eqIn_bool {t : TypeId} {a b : Bool} (hU : P.underlying t = some .bool) (n : Nat) : (Op.equalIn (n + 1) t (.bool a) (.bool b)).run P w = .ok (a == b) w := by
  simp [Op.equalIn, run_underlying hU]
theorem eqIn_ptrNil {t e : TypeId} {a : Option Addr} (hU : P.underlying t = some (.pointer e)) (n : Nat) : (Op.equalIn (n + 1) t (.pointer a) (.pointer none)).run P w = .ok a.isNone w := by
  cases a <;> simp [Op.equalIn, run_underlying hU]
theorem eqIn_sliceNil {t e : TypeId} {a : Option Addr} {l c : Nat} (hU : P.underlying t = some (.slice e)) (n : Nat) : (Op.equalIn (n + 1) t (.slice a l c) (.slice none 0 0)).run P w = .ok a.isNone w := by
  cases a <;> simp [Op.equalIn, run_underlying hU]
theorem run_eqlBool {t yt : TypeId} {x y : Operand} {a b : Bool} (hU : P.underlying t = some .bool) (hx : ρ x = .bool a) (hy : ρ y = .bool b) : (execOp ρ ⟨d, .binOp .eql t x y yt, ty, pos, af, g⟩).run P w = .ok (.value (.bool (a == b))) w := by
  have := eqIn_bool (P := P) (w := w) (a := a) (b := b) hU 9999
  simp [execOp, eqGuard, hx, hy, binOp, Op.equal, Op.maxDepth, this]
theorem run_neqBool {t yt : TypeId} {x y : Operand} {a b : Bool} (hU : P.underlying t = some .bool) (hx : ρ x = .bool a) (hy : ρ y = .bool b) : (execOp ρ ⟨d, .binOp .neq t x y yt, ty, pos, af, g⟩).run P w = .ok (.value (.bool (!(a == b)))) w := by
  have := eqIn_bool (P := P) (w := w) (a := a) (b := b) hU 9999
  simp [execOp, eqGuard, hx, hy, binOp, Op.equal, Op.maxDepth, this]
theorem list_beq_dec {α : Type} [BEq α] [LawfulBEq α] [DecidableEq α] (a b : List α) : (a == b) = decide (a = b) := by
  rw [Bool.eq_iff_iff]; simp
theorem run_eqlStr {t yt : TypeId} {x y : Operand} {a b : ByteArray} (hx : ρ x = .string a) (hy : ρ y = .string b) : (execOp ρ ⟨d, .binOp .eql t x y yt, ty, pos, af, g⟩).run P w = .ok (.value (.bool (decide (a.toList = b.toList)))) w := by
  simp [execOp, eqGuard, hx, hy, binOp, Op.stringOp, list_beq_dec]
theorem run_neqStr {t yt : TypeId} {x y : Operand} {a b : ByteArray} (hx : ρ x = .string a) (hy : ρ y = .string b) : (execOp ρ ⟨d, .binOp .neq t x y yt, ty, pos, af, g⟩).run P w = .ok (.value (.bool (!decide (a.toList = b.toList)))) w := by
  simp [execOp, eqGuard, hx, hy, binOp, Op.stringOp, list_beq_dec]
theorem run_eqlStrT {t yt : TypeId} {x y : Operand} {a b : ByteArray} (hx : ρ x = .string a) (hy : ρ y = .string b) (h : a.toList = b.toList) : (execOp ρ ⟨d, .binOp .eql t x y yt, ty, pos, af, g⟩).run P w = .ok (.value (.bool true)) w := by rw [run_eqlStr hx hy]; simp [h]
theorem run_eqlStrF {t yt : TypeId} {x y : Operand} {a b : ByteArray} (hx : ρ x = .string a) (hy : ρ y = .string b) (h : ¬ a.toList = b.toList) : (execOp ρ ⟨d, .binOp .eql t x y yt, ty, pos, af, g⟩).run P w = .ok (.value (.bool false)) w := by rw [run_eqlStr hx hy]; simp [h]
theorem run_eqlPtrNil {t yt e : TypeId} {x y : Operand} {a : Option Addr} (hU : P.underlying t = some (.pointer e)) (hx : ρ x = .pointer a) (hy : ρ y = .pointer none) : (execOp ρ ⟨d, .binOp .eql t x y yt, ty, pos, af, g⟩).run P w = .ok (.value (.bool a.isNone)) w := by
  have := eqIn_ptrNil (P := P) (w := w) (a := a) hU 9999
  simp [execOp, eqGuard, hx, hy, binOp, Op.equal, Op.maxDepth, this]
theorem run_neqPtrNil {t yt e : TypeId} {x y : Operand} {a : Option Addr} (hU : P.underlying t = some (.pointer e)) (hx : ρ x = .pointer a) (hy : ρ y = .pointer none) : (execOp ρ ⟨d, .binOp .neq t x y yt, ty, pos, af, g⟩).run P w = .ok (.value (.bool (!a.isNone))) w := by
  have := eqIn_ptrNil (P := P) (w := w) (a := a) hU 9999
  simp [execOp, eqGuard, hx, hy, binOp, Op.equal, Op.maxDepth, this]
theorem run_eqlSliceNil {t yt e : TypeId} {x y : Operand} {a : Option Addr} {l c : Nat} (hU : P.underlying t = some (.slice e)) (hx : ρ x = .slice a l c) (hy : ρ y = .slice none 0 0) : (execOp ρ ⟨d, .binOp .eql t x y yt, ty, pos, af, g⟩).run P w = .ok (.value (.bool a.isNone)) w := by
  have := eqIn_sliceNil (P := P) (w := w) (a := a) (l := l) (c := c) hU 9999
  simp [execOp, eqGuard, hx, hy, binOp, Op.equal, Op.maxDepth, this]
theorem run_neqSliceNil {t yt e : TypeId} {x y : Operand} {a : Option Addr} {l c : Nat} (hU : P.underlying t = some (.slice e)) (hx : ρ x = .slice a l c) (hy : ρ y = .slice none 0 0) : (execOp ρ ⟨d, .binOp .neq t x y yt, ty, pos, af, g⟩).run P w = .ok (.value (.bool (!a.isNone))) w := by
  have := eqIn_sliceNil (P := P) (w := w) (a := a) (l := l) (c := c) hU 9999
  simp [execOp, eqGuard, hx, hy, binOp, Op.equal, Op.maxDepth, this]

/-! ### len -/
theorem run_lenSlice {t n c : Nat} {x : Operand} {e : TypeId} {a : Option Addr} (hU : P.underlying t = some (.slice e)) (hx : ρ x = .slice a n c) :
    (execOp ρ ⟨d, .call { callee := .builtin .len, args := #[x], argTypes := #[t] }, ty, pos, af, g⟩).run P w = .ok (.value (.int .i64 n)) w := by
  simp [execOp, resolve, invoke, builtin, Builtin.len_, run_underlying hU, hx, goInt]
theorem run_lenStr {t : Nat} {x : Operand} {s : ByteArray} (hU : P.underlying t = some .string) (hx : ρ x = .string s) :
    (execOp ρ ⟨d, .call { callee := .builtin .len, args := #[x], argTypes := #[t] }, ty, pos, af, g⟩).run P w = .ok (.value (.int .i64 s.size)) w := by
  simp [execOp, resolve, invoke, builtin, Builtin.len_, run_underlying hU, hx, goInt]

/-! ### Calls -/
theorem run_call {f : FuncId} {xs : List Operand} {tys : Array TypeId} (h : ∀ args w, (callFunc f args).run P w = .ok (.enter f args) w) :
    (execOp ρ ⟨d, .call { callee := .value (.func f), args := xs.toArray, argTypes := tys }, ty, pos, af, g⟩).run P w = .ok (.enter f (xs.map ρ).toArray) w ∨ ρ (.func f) ≠ .func (.func f) #[] #[] := by
  by_cases hf : ρ (.func f) = .func (.func f) #[] #[]
  · left
    simp [execOp, resolve, hf, Deferred.ofValue, invoke, h]
  · exact .inr hf
theorem run_callE {env : Env} {f : FuncId} {xs : List Operand} {tys : Array TypeId} (h : ∀ args w, (callFunc f args).run P w = .ok (.enter f args) w) :
    (execOp (evo env) ⟨d, .call { callee := .value (.func f), args := xs.toArray, argTypes := tys }, ty, pos, af, g⟩).run P w = .ok (.enter f (xs.map (evo env)).toArray) w :=
  (run_call h).resolve_right (fun hn => hn rfl)
theorem run_callV {env : Env} {x : Operand} {f : FuncId} {first captured : Array Value} {xs : List Operand} {tys : Array TypeId} (hx : evo env x = .func (.func f) first captured) (h : ∀ args w, (callFunc f args).run P w = .ok (.enter f args) w) :
    (execOp (evo env) ⟨d, .call { callee := .value x, args := xs.toArray, argTypes := tys }, ty, pos, af, g⟩).run P w = .ok (.enter f (first ++ (xs.map (evo env)).toArray ++ captured)) w := by
  simp [execOp, resolve, hx, Deferred.ofValue, invoke, h]
end
end Go.Sl
