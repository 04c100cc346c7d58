/-
  SlB: several texts of mine as one. Nothing of any program is named here.
-/
import Derived.Test.YtdpakoefdpmebaaGreatSlA
import Derived.Laws.MakeOwn
import Derived.Laws.Small
import Derived.Maps.RangeRun
import Derived.Laws.Concat
import Derived.Lib.Overlaps
import Derived.Laws.Externs
/-
  Small steps more: comparisons of bools that are known, bits of numbers that are no less than nought.
-/
namespace Go.Sl
open Go
section
variable {P : Program} {w : World} {ρ : Operand → Value} {d : Option Nat} {ty : TypeId} {pos : String} {af : Array Edge} {g : Option (Nat × Bool)}
theorem run_eqlBoolT {t yt : TypeId} {x y : Operand} {a b : Bool} (hU : P.underlying t = some .bool) (hx : ρ x = .bool a) (hy : ρ y = .bool b) (h : a = b) : (execOp ρ ⟨d, .binOp .eql t x y yt, ty, pos, af, g⟩).run P w = .ok (.value (.bool true)) w := by
  rw [run_eqlBool hU hx hy, h]; simp
theorem run_neqBoolF {t yt : TypeId} {x y : Operand} {a b : Bool} (hU : P.underlying t = some .bool) (hx : ρ x = .bool a) (hy : ρ y = .bool b) (h : a = b) : (execOp ρ ⟨d, .binOp .neq t x y yt, ty, pos, af, g⟩).run P w = .ok (.value (.bool false)) w := by
  rw [run_neqBool hU hx hy, h]; simp
theorem run_neqStrF {t yt : TypeId} {x y : Operand} {a b : ByteArray} (hx : ρ x = .string a) (hy : ρ y = .string b) (h : a.toList = b.toList) : (execOp ρ ⟨d, .binOp .neq t x y yt, ty, pos, af, g⟩).run P w = .ok (.value (.bool false)) w := by
  rw [run_neqStr hx hy]; simp [h]
theorem run_neqStrT {t yt : TypeId} {x y : Operand} {a b : ByteArray} (hx : ρ x = .string a) (hy : ρ y = .string b) (h : ¬ a.toList = b.toList) : (execOp ρ ⟨d, .binOp .neq t x y yt, ty, pos, af, g⟩).run P w = .ok (.value (.bool true)) w := by
  rw [run_neqStr hx hy]; simp [h]
theorem run_convIn {s t : TypeId} {x : Operand} {k j : IntKind} {n : Int} {ds : TypeDesc} (hs : P.underlying s = some ds) (ht : P.underlying t = some (.int k)) (hx : ρ x = .int j n) (h : k.min ≤ n) (h' : n ≤ k.max) :
    (execOp ρ ⟨d, .convert s t x, ty, pos, af, g⟩).run P w = .ok (.value (.int k n)) w := by
  rw [run_convInt hs ht hx, wrap_in _ h h']
theorem run_shrN {t yt : TypeId} {x y : Operand} {k ky : IntKind} {m j : Nat} (hx : ρ x = .int k (m : Int)) (hy : ρ y = .int ky (j : Int)) (hj : j ≤ k.bits) :
    (execOp ρ ⟨d, .binOp .shr t x y yt, ty, pos, af, g⟩).run P w = .ok (.value (.int k ((m / 2 ^ j : Nat) : Int))) w := by
  rw [run_shr hx hy (by omega)]
  rw [Int.toNat_natCast, Nat.min_eq_left hj]
  have : (m : Int).fdiv (2 ^ j) = ((m / 2 ^ j : Nat) : Int) := by
    rw [Int.fdiv_eq_ediv_of_nonneg _ (Int.pow_nonneg (by omega))]
    rw [Int.natCast_ediv, Int.natCast_pow]
    rfl
  rw [this]
theorem ofInt_nat (b m : Nat) (h : m < 2 ^ b) : (BitVec.ofInt b (m : Int)).toNat = m := by
  rw [BitVec.toNat_ofInt]
  have : ((m : Int) % ((2 ^ b : Nat) : Int)) = (m : Int) := Int.emod_eq_of_lt (by omega) (by exact_mod_cast h)
  rw [this]; simp
theorem bits_top (k : IntKind) (m : Nat) (h : (m : Int) ≤ k.max) : m < 2 ^ k.bits := by
  cases k <;> simp [IntKind.max, IntKind.bits] at * <;> omega
theorem run_andN {t yt : TypeId} {x y : Operand} {k : IntKind} {m n : Nat} (hx : ρ x = .int k (m : Int)) (hy : ρ y = .int k (n : Int)) (hm : (m : Int) ≤ k.max) (hn : (n : Int) ≤ k.max) :
    (execOp ρ ⟨d, .binOp .and t x y yt, ty, pos, af, g⟩).run P w = .ok (.value (.int k ((m &&& n : Nat) : Int))) w := by
  rw [run_and hx hy]
  rw [BitVec.toNat_and, ofInt_nat _ _ (bits_top _ _ hm), ofInt_nat _ _ (bits_top _ _ hn)]
  have h1 : m &&& n ≤ n := Nat.and_le_right
  have h0 : k.min ≤ 0 := by cases k <;> decide
  rw [wrap_in _ (by omega) (by omega)]
theorem run_andMod {t yt : TypeId} {x y : Operand} {k : IntKind} {m n : Nat} (j : Nat) (hx : ρ x = .int k (m : Int)) (hy : ρ y = .int k (n : Int)) (hm : (m : Int) ≤ k.max) (hn : (n : Int) ≤ k.max) (hj : n = 2 ^ j - 1) :
    (execOp ρ ⟨d, .binOp .and t x y yt, ty, pos, af, g⟩).run P w = .ok (.value (.int k ((m % 2 ^ j : Nat) : Int))) w := by
  rw [run_andN hx hy hm hn, hj, Nat.and_two_pow_sub_one_eq_mod]
/-- Any number made a byte. -/
theorem run_convByte {s t : TypeId} {x : Operand} {j : IntKind} {n : Nat} {ds : TypeDesc} (hs : P.underlying s = some ds) (ht : P.underlying t = some (.int .u8)) (hx : ρ x = .int j (n : Int)) :
    (execOp ρ ⟨d, .convert s t x, ty, pos, af, g⟩).run P w = .ok (.value (.int .u8 ((UInt8.ofNat n).toNat : Int))) w := by
  rw [run_convInt hs ht hx]
  have : IntKind.wrap .u8 (n : Int) = (((UInt8.ofNat n).toNat : Nat) : Int) := by
    rw [UInt8.toNat_ofNat']
    simp [IntKind.wrap, IntKind.bits, IntKind.signed]
  rw [this]
theorem wf_nat {k : IntKind} {a : Int} (h : (Lit.int k a).wf = true) (hk : k.min = 0) : ∃ t : Nat, a = (t : Int) ∧ (t : Int) ≤ k.max := by
  have h' : k.min ≤ a ∧ a ≤ k.max := by simpa [Lit.wf] using h
  obtain ⟨t, rfl⟩ := Int.eq_ofNat_of_zero_le (show 0 ≤ a by omega)
  exact ⟨t, rfl, h'.2⟩
theorem bytes_row {bs : List UInt8} {k : Nat} {x : UInt8} (h : bs[k]? = some x) : ((bytesV bs).drop (k * 1)).take 1 = [.int .u8 (x.toNat : Int)] := by
  rw [Nat.mul_one]
  have : (bytesV bs)[k]? = some (.int .u8 (x.toNat : Int)) := by simp [bytesV, byteV, h]
  obtain ⟨hl, he⟩ := List.getElem?_eq_some_iff.1 this
  rw [List.drop_eq_getElem_cons hl, List.take_succ_cons, List.take_zero, he]
end
end Go.Sl
/-
  Rows that are made, written to and copied into; numbers by their bits; arrays; functions as values.
-/
namespace Go.Sl
open Go
set_option linter.unusedVariables false
section
variable {P : Program} {W0 w : World} {L : List HProp} {ρ : Operand → Value} {d : Option Nat} {ty : TypeId} {pos : String} {af : Array Edge} {g : Option (Nat × Bool)}

theorem madeOne (z : Value) (n : Nat) : (madeCells #[z] n).toList = List.replicate n z := by
  apply List.ext_getElem
  · simp [madeCells]
  · intro i h1 h2; simp [madeCells, Nat.mod_one]
/-- make, elements of one cell. -/
theorem eff_make {t e n bytes : Nat} {kl kc : IntKind} {x y : Operand} {z : Value} {i : TypeInfo} (H : On W0 L w) (hx : ρ x = .int kl (n : Int)) (hy : ρ y = .int kc (n : Int))
    (hU : P.underlying t = some (.slice e)) (hI : P.info? e = some i) (hsz : i.size = 1) (hby : i.bytes = bytes) (hz : i.zero = some z) (hzc : z.cells = #[z]) (hb : bytes * n ≤ 281474976710656) (hm : n ≤ maxLen) :
    Eff P ρ ⟨d, .makeSlice t x y, ty, pos, af, g⟩ w (fun v w' => ∃ b, v = .slice (some ⟨b, 0, none⟩) n n ∧ On W0 (Own 1 (.slice (some ⟨b, 0, none⟩) n n) n (List.replicate n z) :: L) w') := by
  have hml := maxLen_eq
  have hb' : (i.bytes : Int) * (n : Int) ≤ 281474976710656 := by
    have : ((i.bytes * n : Nat) : Int) ≤ 281474976710656 := by rw [hby]; omega
    rwa [Int.natCast_mul] at this
  have hr := run_make (P := P) w t e i z hU hI hz kl kc n n (by omega) (Int.le_refl _) hb' (by omega)
  simp only [Int.toNat_natCast, hsz, Nat.mul_one, hzc] at hr
  refine .inl ⟨_, _, by simp only [execOp, hx, hy, Sem.run_bind, hr, Result.andThen_ok, Sem.run_pure]; rfl, w.heap.size, rfl, ?_⟩
  have hO := H.alloc (.cells (madeCells #[z] n) e)
  have hO' : On W0 (blk w.heap.size (List.replicate n z) e :: L) (w.alloc (.cells (madeCells #[z] n) e)) := by
    rw [← madeOne]; exact hO
  exact Own.ofBlk hO' (by simp) hm
/-- A cell of a slice that is owned, written. -/
theorem eff_storeOwn {t b o k size n c : Nat} {x y : Operand} {v : Value} {xs : List Value} (H : On W0 (Own size (.slice (some ⟨b, o, none⟩) n c) n xs :: L) w) (hS : ∀ w, (sizeOf t).run P w = .ok 1 w) (h : ρ x = .pointer (some ⟨b, o + k, none⟩)) (hy : ρ y = v) (hv : v.oneCell' = true)
    (hk : k < n * size) : Eff P ρ ⟨d, .store t x y, ty, pos, af, g⟩ w (fun _ w' => On W0 (Own size (.slice (some ⟨b, o, none⟩) n c) n (xs.set k v) :: L) w') := by
  obtain ⟨hxl, hO⟩ := Own.openOn H
  rcases hO with ⟨rfl, ao, hv'⟩ | ⟨gb, off, cap, cur, e, fr, hv', hnc, hcm, hfit, htake, hfree, Hb⟩
  · omega
  · simp only [Value.slice.injEq, Option.some.injEq, Addr.mk.injEq] at hv'
    obtain ⟨⟨rfl, rfl, _⟩, _, rfl⟩ := hv'
    have hnc' : n * size ≤ c * size := Nat.mul_le_mul_right _ hnc
    have hf := free_ok hfree (k := o + k) (by omega)
    have h1 := run_storeOne (P := P) (ρ := ρ) (d := d) (ty := ty) (pos := pos) (af := af) (g := g) hS h hy hv (Hb.block 0 rfl) (by rw [Nat.ble_eq]; omega) hf
    refine .inr (.inl ⟨_, h1, ?_⟩)
    have hO' := Hb.setCellL 0 rfl (o + k) v
    refine Own.closeOn (e := e) (fr := fr) hO' (by rw [List.length_set]; exact hxl) hnc hcm (by rw [List.length_set]; exact hfit) ?_ (by rw [List.length_set]; exact hfree)
    rw [List.drop_set, if_neg (by omega), show o + k - o = k by omega, List.take_set, htake]
theorem run_xorN {t yt : TypeId} {x y : Operand} {k : IntKind} {m n : Nat} (hx : ρ x = .int k (m : Int)) (hy : ρ y = .int k (n : Int)) (hm : (m : Int) ≤ k.max) (hn : (n : Int) ≤ k.max) (hr : ((m ^^^ n : Nat) : Int) ≤ k.max) :
    (execOp ρ ⟨d, .binOp .xor t x y yt, ty, pos, af, g⟩).run P w = .ok (.value (.int k ((m ^^^ n : Nat) : Int))) w := by
  rw [run_xor hx hy, BitVec.toNat_xor, ofInt_nat _ _ (bits_top _ _ hm), ofInt_nat _ _ (bits_top _ _ hn)]
  have h0 : k.min ≤ 0 := by cases k <;> decide
  rw [wrap_in _ (by omega) hr]
theorem run_orN {t yt : TypeId} {x y : Operand} {k : IntKind} {m n : Nat} (hx : ρ x = .int k (m : Int)) (hy : ρ y = .int k (n : Int)) (hm : (m : Int) ≤ k.max) (hn : (n : Int) ≤ k.max) (hr : ((m ||| n : Nat) : Int) ≤ k.max) :
    (execOp ρ ⟨d, .binOp .or t x y yt, ty, pos, af, g⟩).run P w = .ok (.value (.int k ((m ||| n : Nat) : Int))) w := by
  rw [run_or hx hy, BitVec.toNat_or, ofInt_nat _ _ (bits_top _ _ hm), ofInt_nat _ _ (bits_top _ _ hn)]
  have h0 : k.min ≤ 0 := by cases k <;> decide
  rw [wrap_in _ (by omega) hr]
theorem run_shlN {t yt : TypeId} {x y : Operand} {k ky : IntKind} {m j : Nat} (hx : ρ x = .int k (m : Int)) (hy : ρ y = .int ky (j : Int)) (hj : j ≤ k.bits) (hr : ((m * 2 ^ j : Nat) : Int) ≤ k.max) :
    (execOp ρ ⟨d, .binOp .shl t x y yt, ty, pos, af, g⟩).run P w = .ok (.value (.int k ((m * 2 ^ j : Nat) : Int))) w := by
  rw [run_shl hx hy (by omega), Int.toNat_natCast, Nat.min_eq_left hj]
  have h0 : k.min ≤ 0 := by cases k <;> decide
  have e : (m : Int) * 2 ^ j = ((m * 2 ^ j : Nat) : Int) := by rw [Int.natCast_mul, Int.natCast_pow]; rfl
  rw [e, wrap_in _ (by omega) hr]
theorem run_subK {t yt : TypeId} {x y : Operand} {k : IntKind} {m n : Nat} (hx : ρ x = .int k (m : Int)) (hy : ρ y = .int k (n : Int)) (h : n ≤ m) (hm : (m : Int) ≤ k.max) :
    (execOp ρ ⟨d, .binOp .sub t x y yt, ty, pos, af, g⟩).run P w = .ok (.value (.int k ((m - n : Nat) : Int))) w := by
  have h0 : k.min ≤ 0 := by cases k <;> decide
  rw [run_subW hx hy, ← Int.natCast_sub h, wrap_in _ (by omega) (by omega)]
theorem run_addK {t yt : TypeId} {x y : Operand} {k : IntKind} {m n : Nat} (hx : ρ x = .int k (m : Int)) (hy : ρ y = .int k (n : Int)) (hm : ((m + n : Nat) : Int) ≤ k.max) :
    (execOp ρ ⟨d, .binOp .add t x y yt, ty, pos, af, g⟩).run P w = .ok (.value (.int k ((m + n : Nat) : Int))) w := by
  have h0 : k.min ≤ 0 := by cases k <;> decide
  rw [run_addW hx hy, ← Int.natCast_add, wrap_in _ (by omega) (by omega)]
theorem run_minI {tys : Array TypeId} {x y : Operand} {k : IntKind} {a b : Int} (hx : ρ x = .int k a) (hy : ρ y = .int k b) :
    (execOp ρ ⟨d, .call { callee := .builtin .min, args := #[x, y], argTypes := tys }, ty, pos, af, g⟩).run P w = .ok (.value (.int k (min a b))) w := by
  simp [execOp, resolve, invoke, builtin, hx, hy, run_min_int2]
  split <;> omega
theorem run_maxI {tys : Array TypeId} {x y : Operand} {k : IntKind} {a b : Int} (hx : ρ x = .int k a) (hy : ρ y = .int k b) :
    (execOp ρ ⟨d, .call { callee := .builtin .max, args := #[x, y], argTypes := tys }, ty, pos, af, g⟩).run P w = .ok (.value (.int k (max a b))) w := by
  simp [execOp, resolve, invoke, builtin, hx, hy, run_max_int2]
  split <;> omega
theorem eff_callV {env : Env} {x : Operand} {f : FuncId} {first captured : Array Value} {xs : List Operand} {tys : Array TypeId} {R : Value → World → Prop} (hx : evo env x = .func (.func f) first captured) (hf : ∀ args w, (callFunc f args).run P w = .ok (.enter f args) w)
    (hc : Calls P f (first ++ (xs.map (evo env)).toArray ++ captured) w (Ret R)) : Eff P (evo env) ⟨d, .call { callee := .value x, args := xs.toArray, argTypes := tys }, ty, pos, af, g⟩ w R :=
  .inr (.inr ⟨f, _, w, run_callV hx hf, hc⟩)
theorem firstCells_len {size q k k' c c' : Nat} {a : Option Addr} : Builtin.firstCells size q (.slice a k c) = Builtin.firstCells size q (.slice a k' c') := by cases a <;> rfl
theorem drop_splice_take {cur ys : List Value} {off lo n : Nat} (h : lo + ys.length ≤ n) (h2 : off + n ≤ cur.length) : ((splice cur (off + lo) ys).drop off).take n = splice ((cur.drop off).take n) lo ys := by
  apply List.ext_getElem?
  intro j
  unfold splice
  simp only [List.getElem?_take, List.getElem?_drop, List.getElem?_append, List.length_take, List.length_append, List.length_drop]
  by_cases hj : j < n
  · rw [if_pos hj]
    by_cases h1 : j < lo
    · rw [if_pos (by omega), if_pos (by omega), if_pos (by omega), if_pos (by omega), if_pos (by omega), if_pos hj, if_pos h1]
    · by_cases h3 : j < lo + ys.length
      · rw [if_pos (by omega), if_neg (by omega), if_pos (by omega), if_neg (by omega)]
        congr 1; omega
      · rw [if_neg (by omega), if_neg (by omega), if_pos (by omega)]
        congr 1; omega
  · rw [if_neg hj, if_neg (by omega), if_neg (by omega)]
/-- copy into a part of a slice that is owned. -/
theorem eff_copyIn {t e lo m n c c' k cy : Nat} {b o : Nat} {ay : Option Addr} {xs ys : List Value} {sx sy : Operand} {tys : Array TypeId} (H : On W0 (Own 1 (.slice (some ⟨b, o, none⟩) n c) n xs :: L) w) (hs : ρ sx = .slice (some ⟨b, o + lo, none⟩) m c') (hy : ρ sy = .slice ay k cy) (C : Cells 1 (.slice ay k cy) k ys (hp w))
    (ht : tys[0]? = some t) (hU : P.underlying t = some (.slice e)) (hS : ∀ w, (sizeOf e).run P w = .ok 1 w) (hlo : lo + m ≤ n) (h1c : ∀ u ∈ ys, u.oneCell' = true) :
    Eff P ρ ⟨d, .call { callee := .builtin .copy, args := #[sx, sy], argTypes := tys }, ty, pos, af, g⟩ w (fun v w' => v = .int .i64 ((min k m : Nat) : Int) ∧ On W0 (Own 1 (.slice (some ⟨b, o, none⟩) n c) n (splice xs lo (ys.take (min k m))) :: L) w') := by
  have hml := maxLen_eq
  obtain ⟨hxl, hO⟩ := Own.openOn H
  rw [Nat.mul_one] at hxl
  have hyl : ys.length = k := by have := C.1; rw [Nat.mul_one] at this; exact this
  have hf := run_firstCells_C (P := P) (C.front (k := min k m) (Nat.min_le_left _ _))
  rw [Nat.mul_one, firstCells_len (k' := k) (c' := cy)] at hf
  have hly := lenOf_C (P := P) (w := w) C
  rcases hO with ⟨rfl, ao, hv'⟩ | ⟨gb, off, cap, cur, e', fr, hv', hnc, hcm, hfit, htake, hfree, Hb⟩
  · obtain rfl : m = 0 := by omega
    obtain rfl : lo = 0 := by omega
    have hx0 : xs = [] := List.eq_nil_of_length_eq_zero hxl
    subst hx0
    simp only [Nat.min_zero, List.take_zero] at hf ⊢
    refine .inl ⟨.int .i64 0, w, ?_, rfl, by simpa [splice] using H⟩
    simp [execOp, resolve, invoke, builtin, hs, hy, Builtin.copy_, ht, run_underlying hU, hS, hly, hf, storeCells, goInt]
  · simp only [Value.slice.injEq, Option.some.injEq, Addr.mk.injEq] at hv'
    obtain ⟨⟨rfl, rfl, _⟩, _, rfl⟩ := hv'
    rw [Nat.mul_one] at hfit htake
    have hlt : (ys.take (min k m)).length = min k m := by rw [List.length_take, hyl]; omega
    have hmk : min k m ≤ m := Nat.min_le_right _ _
    obtain ⟨w', hst, hO'⟩ := Hb.storeCells (P := P) 0 rfl (o + lo) (ys.take (min k m)) (by omega) (fun u hu => h1c u (List.mem_of_mem_take hu)) (fun q h1 h2 => free_ok hfree (by omega))
    have hkm : k ≤ maxLen := by obtain ⟨_, _, cap, hv, h1, h2, _⟩ := C; simp only [Value.slice.injEq] at hv; omega
    refine .inl ⟨.int .i64 ((min k m : Nat) : Int), w', ?_, rfl, ?_⟩
    · have hg : goInt (Nat.min k m) = .int .i64 ((min k m : Nat) : Int) := rfl
      simp [execOp, resolve, invoke, builtin, hs, hy, Builtin.copy_, ht, run_underlying hU, hS, hly, hf, hst, goInt]
    · refine Own.closeOn (e := e') (fr := fr) hO' ?_ hnc hcm (by rw [splice_length (by omega), Nat.mul_one]; exact hfit) ?_ (by rw [splice_length (by omega)]; exact hfree)
      · rw [splice_length (by omega), Nat.mul_one]; exact hxl
      · rw [Nat.mul_one, drop_splice_take (by omega) (by omega), htake]
theorem fill_row {n size : Nat} {pl : List (Nat × Nat)} (hpl : pl = (List.range n).map fun i => (i * size, size)) : ∀ (vs : List (Nat × Value)) (zl : List Value), (∀ p ∈ vs, p.1 < n) → fits pl zl.length vs → Instr.fill (fun i => some (i * size, size)) zl.toArray vs = some (placed pl zl vs).toArray := by
  intro vs
  induction vs with
  | nil => intro zl _ _; rfl
  | cons p ps ih =>
    obtain ⟨i, v⟩ := p
    intro zl hlt h
    obtain ⟨⟨off, size', h1, h2, h3⟩, h4⟩ := h
    have hi : i < n := hlt (i, v) (by simp)
    have hpi : pl[i]? = some (i * size, size) := by rw [hpl]; simp [hi]
    rw [hpi] at h1
    cases h1
    have := fill_placed (fun j => if j = i then some (i * size, size) else none) [] 
    unfold Instr.fill
    have hle : v.cells.toList.length = size := by simpa using h2
    have c : ¬ (v.cells.size ≠ size ∨ i * size + v.cells.size > zl.toArray.size) := by simp [h2]; omega
    simp only [Bool.or_eq_true, decide_eq_true_eq]
    rw [if_neg (by simpa using c)]
    have hf := foldl_splice zl (i * size) v.cells.toList 0 (by simp at hle ⊢; omega)
    have e : (v.cells.zipIdx.foldl (fun cs (x : Value × Nat) => cs.setIfInBounds (i * size + x.2) x.1) zl.toArray) = (splice zl (i * size) v.cells.toList).toArray := by
      rw [← Array.foldl_toList]
      simpa using hf
    rw [e, ih _ (fun q hq => hlt q (List.mem_cons_of_mem _ hq)) (by rw [splice_length (by omega)]; exact h4)]
    simp [placed, hpi]
theorem run_buildA {t e n size : Nat} {ps : List (Nat × Operand)} {z : List Value} {pl : List (Nat × Nat)} {vs : List (Nat × Value)} {out : List Value}
    (hU : P.underlying t = some (.array n e)) (hS : ∀ w, (sizeOf e).run P w = .ok size w) (hZ : ∀ w, (zeroValue t).run P w = .ok (.agg z.toArray) w)
    (hpl : pl = (List.range n).map fun i => (i * size, size)) (hv : ps.map (fun p => (p.1, ρ p.2)) = vs) (hlt : ∀ p ∈ vs, p.1 < n) (hf : fits pl z.length vs) (ho : placed pl z vs = out) :
    (execOp ρ ⟨d, .build t ps.toArray, ty, pos, af, g⟩).run P w = .ok (.value (.agg out.toArray)) w := by
  have h : ∀ w, (Instr.build t (ps.toArray.map fun (i, x) => (i, ρ x))).run P w = .ok (.agg out.toArray) w := by
    intro w
    have hm : (ps.toArray.map fun (x : Nat × Operand) => (x.1, ρ x.2)).toList = vs := by rw [← hv]; simp
    unfold Instr.build
    simp only [Sem.run_bind, hZ, Result.andThen_ok, run_underlying hU, hS, Value.cells]
    have := fill_row hpl vs z hlt hf
    rw [hm, this, ho]
    rfl
  exact run_build h
theorem fits_row {n : Nat} : ∀ (vs : List (Nat × Value)), (∀ p ∈ vs, p.1 < n ∧ p.2.oneCell' = true) → fits ((List.range n).map fun i => (i * 1, 1)) n vs := by
  intro vs
  induction vs with
  | nil => intro _; trivial
  | cons p vs ih =>
    obtain ⟨i, v⟩ := p
    intro h
    obtain ⟨h1, h2⟩ := h (i, v) (by simp)
    exact ⟨⟨i * 1, 1, by simp [h1], by rw [cells_one h2]; rfl, by omega⟩, ih fun p hp => h p (List.mem_cons_of_mem _ hp)⟩
theorem placed_row {n : Nat} : ∀ (vs pre rest : List Value), rest.length = vs.length → pre.length + vs.length = n → (∀ v ∈ vs, v.oneCell' = true) → placed ((List.range n).map fun i => (i * 1, 1)) (pre ++ rest) (List.zip (List.range' pre.length vs.length) vs) = pre ++ vs := by
  intro vs
  induction vs with
  | nil => intro pre rest h _ _; have : rest = [] := List.eq_nil_of_length_eq_zero h; subst this; rfl
  | cons v vs ih =>
    intro pre rest hl hn h1
    obtain ⟨r, rest, rfl⟩ : ∃ r rest', rest = r :: rest' := by cases rest with | nil => simp at hl | cons r rest => exact ⟨r, rest, rfl⟩
    simp only [List.length_cons] at hl hn ⊢
    rw [List.range'_succ, List.zip_cons_cons]
    show placed _ (splice (pre ++ r :: rest) ((((List.range n).map fun i => (i * 1, 1))[pre.length]?.getD (0, 0)).1) v.cells.toList) _ = _
    have e1 : ((List.range n).map fun i => (i * 1, 1))[pre.length]? = some (pre.length, 1) := by
      rw [List.getElem?_map, List.getElem?_range (by omega)]; simp
    rw [e1, cells_one (h1 v (by simp))]
    have e2 : splice (pre ++ r :: rest) pre.length [v] = (pre ++ [v]) ++ rest := by
      unfold splice
      rw [List.take_left, show pre.length + [v].length = (pre ++ [r]).length by simp, show pre ++ r :: rest = (pre ++ [r]) ++ rest by simp, List.drop_left]
    show placed _ (splice (pre ++ r :: rest) pre.length [v]) _ = _
    rw [e2]
    have := ih (pre ++ [v]) rest (by omega) (by simp; omega) (fun u hu => h1 u (List.mem_cons_of_mem _ hu))
    rw [List.length_append] at this
    simpa using this
/-- '[]T{..}' of one-cell elements, all given, in their order. -/
theorem eff_mkRow {t n e : Nat} {ps : List (Nat × Operand)} {z : Value} {out : List Value} (H : On W0 L w) (hU : P.underlying t = some (.slice e)) (hS : ∀ w, (sizeOf e).run P w = .ok 1 w) (hZ : ∀ w, (zeroValue e).run P w = .ok z w) (hz : z.cells = #[z])
    (hn : n ≤ 16777216) (hi : ps.map (·.1) = List.range n) (hv : ps.map (fun p => ρ p.2) = out) (h1 : out.all (·.oneCell') = true) :
    Eff P ρ ⟨d, .buildSlice t n ps.toArray, ty, pos, af, g⟩ w (fun v w' => ∃ b, v = .slice (some ⟨b, 0, none⟩) n n ∧ On W0 (Own 1 (.slice (some ⟨b, 0, none⟩) n n) n out :: L) w') := by
  have hol : out.length = n := by rw [← hv, List.length_map]; have := congrArg List.length hi; simpa using this
  have h1' : ∀ v ∈ out, v.oneCell' = true := by simpa using h1
  have hvs : ps.map (fun p => (p.1, ρ p.2)) = List.zip (List.range n) out := by
    rw [← hi, ← hv, List.zip_map']
  refine eff_mkSlice (zl := List.replicate n z) H hU hS hZ (by omega) ?_ rfl hvs (fun p hp => ?_) ?_ ?_ (by omega) (by have := maxLen_eq; omega)
  · by_cases h0 : n = 0
    · subst h0; simp
    · have : ¬ n * 1 = 0 := by omega
      simp only [this, if_false, hz]
      apply Array.ext
      · simp
      · intro i h1 h2; simp [Nat.mod_one]
  · have := (List.of_mem_zip hp).1; simpa using this
  · rw [List.length_replicate]
    refine fits_row _ fun p hp => ?_
    obtain ⟨a, b⟩ := List.of_mem_zip hp
    exact ⟨by simpa using a, h1' _ b⟩
  · have := placed_row (n := n) out [] (List.replicate n z) (by simp [hol]) (by simp [hol]) h1'
    rw [List.nil_append, List.nil_append, List.length_nil, hol, ← List.range_eq_range'] at this
    exact this
theorem eqIn_int {t : TypeId} {k k' : IntKind} {a b : Int} (hU : P.underlying t = some (.int k')) (m : Nat) : (Op.equalIn (m + 1) t (.int k a) (.int k b)).run P w = .ok (a == b) w := by
  simp [Op.equalIn, run_underlying hU]
theorem run_eqlPair {t e yt : TypeId} {x y : Operand} {k k' : IntKind} {a b c c' : Int} (hU : P.underlying t = some (.array 2 e)) (hE : P.underlying e = some (.int k')) (hS : ∀ w, (sizeOf e).run P w = .ok 1 w) (hA : ∀ w, (isAgg e).run P w = .ok false w) (hG : P.eqGuardType P.depth t = false)
    (hx : ρ x = .agg #[.int k a, .int k b]) (hy : ρ y = .agg #[.int k c, .int k c']) :
    (execOp ρ ⟨d, .binOp .eql t x y yt, ty, pos, af, g⟩).run P w = .ok (.value (.bool (decide (a = c ∧ b = c')))) w := by
  have e1 : ∀ a b : Int, (Op.equalIn 9999 e (.int k a) (.int k b)).run P w = .ok (a == b) w := fun a b => eqIn_int (P := P) (w := w) hE 9998
  have key : (Op.equalIn 10000 t (.agg #[.int k a, .int k b]) (.agg #[.int k c, .int k c'])).run P w = .ok (decide (a = c ∧ b = c')) w := by
    rw [show (10000 : Nat) = 9999 + 1 from rfl]
    unfold Op.equalIn
    by_cases h1 : a = c <;> by_cases h2 : b = c' <;> simp [run_underlying hU, hS, part, hA, e1, h1, h2, Std.Legacy.Range.forIn_eq_forIn_range', List.range']
  simp [execOp, eqGuard, hG, hx, hy, binOp, Op.equal, Op.maxDepth, key]
end
end Go.Sl
/-
  Parts of a row that is owned: where they lie, cleared.
-/
namespace Go.Sl
open Go
set_option linter.unusedVariables false
section
variable {P : Program} {W0 w : World} {L : List HProp} {ρ : Operand → Value} {d : Option Nat} {ty : TypeId} {pos : String} {af : Array Edge} {g : Option (Nat × Bool)}
/-- A part of a row of cells, by its place. -/
theorem sliced_part {b o lo hi c : Nat} (h1 : lo ≤ hi) (h2 : hi ≤ c) : ∃ lo', sliced (some ⟨b, o, none⟩) lo hi c 1 = .slice (some ⟨b, o + lo', none⟩) (hi - lo) (c - lo) ∧ (lo' = lo ∨ (hi - lo = 0 ∧ lo' = 0)) := by
  unfold sliced
  by_cases h : c = lo
  · exact ⟨0, by simp [h], .inr ⟨by omega, rfl⟩⟩
  · exact ⟨lo, by simp [h, Addr.add_mk], .inl rfl⟩
/-- A cut whose value is known by another name. -/
theorem run_cutLV {t e size n c l : Nat} {kl : IntKind} {x y : Operand} {a : Option Addr} {v : Value} (hU : P.underlying t = some (.slice e)) (hS : ∀ w, (sizeOf e).run P w = .ok size w) (hx : ρ x = .slice a n c) (hy : ρ y = .int kl l) (h1 : l ≤ n) (hv : sliced a l n c size = v) :
    (execOp ρ ⟨d, .slice t x (some y) none none, ty, pos, af, g⟩).run P w = .ok (.value v) w := by rw [← hv]; exact run_cutL hU hS hx hy h1
theorem run_cutLHV {t e size n c l h : Nat} {kl kh : IntKind} {x y z : Operand} {a : Option Addr} {v : Value} (hU : P.underlying t = some (.slice e)) (hS : ∀ w, (sizeOf e).run P w = .ok size w) (hx : ρ x = .slice a n c) (hy : ρ y = .int kl l) (hz : ρ z = .int kh h) (h1 : l ≤ h) (h2 : h ≤ c) (hv : sliced a l h c size = v) :
    (execOp ρ ⟨d, .slice t x (some y) (some z) none, ty, pos, af, g⟩).run P w = .ok (.value v) w := by rw [← hv]; exact run_cutLH hU hS hx hy hz h1 h2
theorem run_andV {t yt : TypeId} {x y : Operand} {k : IntKind} {m n : Nat} {v : Int} (hv : ((m &&& n : Nat) : Int) = v) (hx : ρ x = .int k (m : Int)) (hy : ρ y = .int k (n : Int)) (hm : (m : Int) ≤ k.max) (hn : (n : Int) ≤ k.max) :
    (execOp ρ ⟨d, .binOp .and t x y yt, ty, pos, af, g⟩).run P w = .ok (.value (.int k v)) w := by rw [← hv]; exact run_andN hx hy hm hn
theorem zeroOne (z : Value) (n : Nat) : (Builtin.zeroCells #[z] n).toList = List.replicate n z := by
  apply List.ext_getElem
  · simp [Builtin.zeroCells]
  · intro i h1 h2; simp [Builtin.zeroCells, Nat.mod_one]
/-- clear of a part of a slice that is owned. -/
theorem eff_clearIn {t e lo m n c c' : Nat} {b o : Nat} {z : Value} {xs : List Value} {sx : Operand} {tys : Array TypeId} (H : On W0 (Own 1 (.slice (some ⟨b, o, none⟩) n c) n xs :: L) w) (hs : ρ sx = .slice (some ⟨b, o + lo, none⟩) m c')
    (ht : tys[0]? = some t) (hU : P.underlying t = some (.slice e)) (hZ : ∀ w, (zeroValue e).run P w = .ok z w) (hz : z.cells = #[z]) (hz1 : z.oneCell' = true) (hlo : lo + m ≤ n) :
    Eff P ρ ⟨d, .call { callee := .builtin .clear, args := #[sx], argTypes := tys }, ty, pos, af, g⟩ w (fun v w' => On W0 (Own 1 (.slice (some ⟨b, o, none⟩) n c) n (splice xs lo (List.replicate m z)) :: L) w') := by
  obtain ⟨hxl, hO⟩ := Own.openOn H
  rw [Nat.mul_one] at hxl
  rcases hO with ⟨rfl, ao, hv'⟩ | ⟨gb, off, cap, cur, e', fr, hv', hnc, hcm, hfit, htake, hfree, Hb⟩
  · obtain rfl : m = 0 := by omega
    obtain rfl : lo = 0 := by omega
    have hx0 : xs = [] := List.eq_nil_of_length_eq_zero hxl
    subst hx0
    refine .inl ⟨.tuple #[], w, ?_, by simpa [splice] using H⟩
    simp [execOp, resolve, invoke, builtin, hs, Builtin.clear_, ht, run_underlying hU]
  · simp only [Value.slice.injEq, Option.some.injEq, Addr.mk.injEq] at hv'
    obtain ⟨⟨rfl, rfl, _⟩, _, rfl⟩ := hv'
    rw [Nat.mul_one] at hfit htake
    have hlt : (List.replicate m z).length = m := by simp
    obtain ⟨w', hst, hO'⟩ := Hb.storeCells (P := P) 0 rfl (o + lo) (List.replicate m z) (by omega) (fun u hu => by rw [(List.mem_replicate.1 hu).2]; exact hz1) (fun q h1 h2 => free_ok hfree (by omega))
    have hcl : On W0 (Own 1 (.slice (some ⟨b, o, none⟩) n c) n (splice xs lo (List.replicate m z)) :: L) w' := by
      refine Own.closeOn (e := e') (fr := fr) hO' ?_ hnc hcm (by rw [splice_length (by omega), Nat.mul_one]; exact hfit) ?_ (by rw [splice_length (by omega)]; exact hfree)
      · rw [splice_length (by omega), Nat.mul_one]; exact hxl
      · rw [Nat.mul_one, drop_splice_take (by omega) (by omega), htake]
    by_cases hm0 : m = 0
    · subst hm0
      refine .inl ⟨.tuple #[], w, ?_, ?_⟩
      · simp [execOp, resolve, invoke, builtin, hs, Builtin.clear_, ht, run_underlying hU]
      · have : splice xs lo (List.replicate 0 z) = xs := by simp [splice]
        rw [this]; exact H
    · refine .inl ⟨.tuple #[], w', ?_, hcl⟩
      obtain ⟨q, rfl⟩ : ∃ q, m = q + 1 := ⟨m - 1, by omega⟩
      have hzc : (Builtin.zeroCells z.cells (q + 1)).toList = List.replicate (q + 1) z := by rw [hz, zeroOne]
      rw [← hzc] at hst
      simp [execOp, resolve, invoke, builtin, hs, Builtin.clear_, ht, run_underlying hU, hZ, hst]
end
end Go.Sl
/-
  Function values, elements of arrays that are values.
-/
namespace Go.Sl
open Go
set_option linter.unusedVariables false
section
variable {P : Program} {W0 w : World} {L : List HProp} {ρ : Operand → Value} {d : Option Nat} {ty : TypeId} {pos : String} {af : Array Edge} {g : Option (Nat × Bool)}
theorem run_makeFunc {fn : Fn} {xs ys : List Operand} : (execOp ρ ⟨d, .makeFunc fn xs.toArray ys.toArray, ty, pos, af, g⟩).run P w = .ok (.value (.func fn (xs.map ρ).toArray (ys.map ρ).toArray)) w := by
  simp [execOp, Instr.makeFunc]
theorem run_indexArr {t e n : Nat} {x y : Operand} {k : IntKind} {i : Int} {cs : List Value} {v : Value} (hU : P.underlying t = some (.array n e)) (hS : ∀ w, (sizeOf e).run P w = .ok 1 w) (hA : ∀ w, (isAgg e).run P w = .ok false w)
    (hx : ρ x = .agg cs.toArray) (hy : ρ y = .int k i) (h0 : 0 ≤ i) (h1 : i < n) (hv : cs[i.toNat]? = some v) : (execOp ρ ⟨d, .index t x y, ty, pos, af, g⟩).run P w = .ok (.value v) w := by
  simp [execOp, Instr.index, run_underlying hU, hx, hy, asIntOf, hS, h0, h1, part, hA, hv]
theorem run_indexStr {t : Nat} {x y : Operand} {k : IntKind} {i : Nat} {s : ByteArray} {c : UInt8} (hU : P.underlying t = some .string) (hx : ρ x = .string s) (hy : ρ y = .int k (i : Int)) (hc : s[i]? = some c) : (execOp ρ ⟨d, .index t x y, ty, pos, af, g⟩).run P w = .ok (.value (.int .u8 (c.toNat : Int))) w := by
  simp [execOp, Instr.index, run_underlying hU, hx, hy, asIntOf, hc]
theorem run_eqlInts2 {t yt : TypeId} {x y : Operand} {f1 f2 : Field} {k k1 k2 : IntKind} {a b c c' : Int} (hU : P.underlying t = some (.struct #[f1, f2])) (hn1 : f1.name ≠ "_") (hn2 : f2.name ≠ "_") (ho1 : f1.offset = 0) (ho2 : f2.offset = 1)
    (hE1 : P.underlying f1.type = some (.int k1)) (hE2 : P.underlying f2.type = some (.int k2)) (hA1 : ∀ w, (isAgg f1.type).run P w = .ok false w) (hA2 : ∀ w, (isAgg f2.type).run P w = .ok false w) (hH : P.stoodInHeld t = false) (hG : P.eqGuardType P.depth t = false)
    (hx : ρ x = .agg #[.int k a, .int k b]) (hy : ρ y = .agg #[.int k c, .int k c']) :
    (execOp ρ ⟨d, .binOp .eql t x y yt, ty, pos, af, g⟩).run P w = .ok (.value (.bool (decide (a = c ∧ b = c')))) w := by
  have e1 : ∀ a b : Int, (Op.equalIn 9999 f1.type (.int k a) (.int k b)).run P w = .ok (a == b) w := fun a b => eqIn_int (P := P) (w := w) hE1 9998
  have e2 : ∀ a b : Int, (Op.equalIn 9999 f2.type (.int k a) (.int k b)).run P w = .ok (a == b) w := fun a b => eqIn_int (P := P) (w := w) hE2 9998
  have key : (Op.equalIn 10000 t (.agg #[.int k a, .int k b]) (.agg #[.int k c, .int k c'])).run P w = .ok (decide (a = c ∧ b = c')) w := by
    rw [show (10000 : Nat) = 9999 + 1 from rfl]
    unfold Op.equalIn
    by_cases h1 : a = c <;> by_cases h2 : b = c' <;> simp [run_underlying hU, hH, part, hA1, hA2, ho1, ho2, hn1, hn2, e1, e2, h1, h2]
  simp [execOp, eqGuard, hG, hx, hy, binOp, Op.equal, Op.maxDepth, key]
end
end Go.Sl
/-
  Maps keyed by integers: what they hold, looked up, stored into, cleared; a range over one, in whatever order.
-/
namespace Go.Sl
open Go
set_option linter.unusedVariables false
set_option linter.unusedSimpArgs false
/-- One entry: its key, its value, when it was born. -/
abbrev KV := Int × Value × Nat
def ent (kd : IntKind) (x : KV) : MapEntry := { key := .int kd x.1, val := x.2.1, born := x.2.2 }
def mapO (kd : IntKind) (kvs : List KV) (ck : Nat) : Obj := .map (kvs.map (ent kd)).toArray ck
def fitM (kvs : List KV) (ck : Nat) : Prop := (kvs.map (·.1)).Nodup ∧ (kvs.map (·.2.2)).Nodup ∧ ∀ x ∈ kvs, x.2.2 < ck
/-- A map with its clock. -/
def MapC (b : Nat) (kd : IntKind) (kvs : List KV) (ck : Nat) : HProp := fun h => fitM kvs ck ∧ h b = some (mapO kd kvs ck)
def lookM (kvs : List KV) (k : Int) : Option Value := (kvs.find? fun x => x.1 == k).map (·.2.1)
/-- A value stored. -/
def putM (kvs : List KV) (k : Int) (v : Value) (ck : Nat) : List KV := if kvs.any (fun x => x.1 == k) then kvs.map fun x => if x.1 = k then (k, v, x.2.2) else x else kvs ++ [(k, v, ck)]
def clockM (kvs : List KV) (k : Int) (ck : Nat) : Nat := if kvs.any (fun x => x.1 == k) then ck else ck + 1
section
variable {P : Program} {W0 w : World} {L : List HProp} {ρ : Operand → Value} {d : Option Nat} {ty : TypeId} {pos : String} {af : Array Edge} {g : Option (Nat × Bool)}
theorem findNow_ints {q kd : IntKind} {k : Int} : ∀ (kvs : List KV) (i : Nat), Instr.findNow (.int q) (.int kd k) (kvs.map (ent kd)) i = some ((kvs.findIdx? fun x => x.1 == k).bind fun j => (kvs[j]?).map fun x => (i + j, x.2.1)) := by
  intro kvs
  induction kvs with
  | nil => intro i; rfl
  | cons x kvs ih =>
    intro i
    rw [List.map_cons]
    unfold Instr.findNow
    have hs : Instr.sameNow (.int q) (.int kd k) (ent kd x).key = some (k == x.1) := by simp [Instr.sameNow, ent]
    rw [hs]
    by_cases h : k = x.1
    · subst h
      simp [List.findIdx?_cons, ent]
    · have h1 : (k == x.1) = false := by simpa using h
      have h2 : (x.1 == k) = false := by simpa using fun e => h e.symm
      rw [h1]
      simp only
      rw [ih (i + 1), List.findIdx?_cons, h2]
      simp only [Bool.false_eq_true, if_false]
      cases kvs.findIdx? fun x => x.1 == k with
      | none => rfl
      | some j => simp; cases kvs[j]? <;> simp; omega
theorem lookM_idx (kvs : List KV) (k : Int) : lookM kvs k = (kvs.findIdx? fun x => x.1 == k).bind fun j => (kvs[j]?).map (·.2.1) := by
  unfold lookM
  induction kvs with
  | nil => rfl
  | cons x kvs ih =>
    rw [List.find?_cons, List.findIdx?_cons]
    cases h : x.1 == k
    · rw [ih]
      simp only [Bool.false_eq_true, if_false]
      cases kvs.findIdx? fun x => x.1 == k with
      | none => rfl
      | some j => simp
    · simp
theorem On.mapC {b : Nat} {kd : IntKind} {kvs : List KV} {ck : Nat} (H : On W0 (MapC b kd kvs ck :: L) w) : fitM kvs ck ∧ w.heap[b]? = some (mapO kd kvs ck) := by
  obtain ⟨h1, h2, dd, s1, s2, ⟨hf, a⟩, r⟩ := H.sat
  exact ⟨hf, s1 _ _ a⟩
theorem On.mapOpen {b : Nat} {kd : IntKind} {kvs : List KV} {ck : Nat} (H : On W0 (MapC b kd kvs ck :: L) w) : fitM kvs ck ∧ On W0 (pts b (mapO kd kvs ck) :: L) w := by
  obtain ⟨h1, h2, dd, s1, s2, ⟨hf, a⟩, r⟩ := H.sat
  exact ⟨hf, H.os, H.output, H.tape, H.size, h1, h2, dd, s1, s2, a, r⟩
theorem On.mapClose {b : Nat} {kd : IntKind} {kvs : List KV} {ck : Nat} (hf : fitM kvs ck) (H : On W0 (pts b (mapO kd kvs ck) :: L) w) : On W0 (MapC b kd kvs ck :: L) w := H.head fun h a => ⟨hf, a⟩
theorem On.mapSet {b : Nat} {kd : IntKind} {kvs kvs' : List KV} {ck ck' : Nat} (hf : fitM kvs' ck') (H : On W0 (MapC b kd kvs ck :: L) w) : On W0 (MapC b kd kvs' ck' :: L) { w with heap := w.heap.setIfInBounds b (mapO kd kvs' ck') } := by
  obtain ⟨_, H⟩ := H.mapOpen
  have hb := H.block 0 rfl
  have hlt : b < w.heap.size := (Array.getElem?_eq_some_iff.1 hb).1
  refine On.mapClose hf (H.set (w' := { w with heap := w.heap.setIfInBounds b (mapO kd kvs' ck') }) 0 rfl rfl rfl rfl (by simp) ?_ ?_)
  · simp [Array.getElem?_setIfInBounds, hlt]
  · intro k hk
    simp [Array.getElem?_setIfInBounds, Ne.symm hk]
theorem eff_makeMap {t : Nat} {kd : IntKind} (H : On W0 L w) : Eff P ρ ⟨d, .makeMap t none, ty, pos, af, g⟩ w (fun v w' => ∃ b, v = .map (some b) ∧ On W0 (MapC b kd [] 0 :: L) w') := by
  refine .inl ⟨.map (some w.heap.size), w.alloc (.map #[] 0), ?_, _, rfl, On.mapClose ⟨List.nodup_nil, List.nodup_nil, fun x hx => by cases hx⟩ (H.alloc _)⟩
  have hn : (newObj (.map #[] 0)).run P w = .ok w.heap.size (w.alloc (.map #[] 0)) := rfl
  simp [execOp, Instr.makeMap, hn]
theorem checkKey_int {kt : TypeId} {q kd : IntKind} {k : Int} (hK : P.underlying kt = some (.int q)) (e : Bool) (n : Nat) : (Instr.checkKey e (n + 1) kt (.int kd k)).run P w = .ok () w := by
  simp [Instr.checkKey, run_underlying hK]
theorem run_lookupH {t kt et b : Nat} {q kd : IntKind} {k : Int} {x y : Operand} {z : Value} {kvs : List KV} {ck : Nat} (hb : w.heap[b]? = some (mapO kd kvs ck)) (hU : P.underlying t = some (.map kt et)) (hK : P.underlying kt = some (.int q)) (hZ : ∀ w, (zeroValue et).run P w = .ok z w) (hx : ρ x = .map (some b)) (hy : ρ y = .int kd k) :
    (execOp ρ ⟨d, .lookup t x y false, ty, pos, af, g⟩).run P w = .ok (.value ((lookM kvs k).getD z)) w := by
  have hf := findNow_ints (q := q) (kd := kd) (k := k) kvs 0
  have hl := lookM_idx kvs k
  have hgo : (getObj b).run P w = .ok (mapO kd kvs ck) w := MapKept.run_getObj_map (by exact hb)
  unfold mapO at hgo
  rw [hl]
  have hck : ∀ e, (Instr.checkKey e 10000 kt (.int kd k)).run P w = .ok () w := fun e => checkKey_int hK e 9999
  cases hfi : kvs.findIdx? fun x => x.1 == k with
  | none =>
    rw [hfi] at hf
    simp only [Option.bind_none] at hf ⊢
    simp [execOp, Instr.lookup, run_underlying hU, run_underlying hK, hx, hy, hgo, hck, Instr.findKey, hf, hZ]
  | some j =>
    rw [hfi] at hf
    have hj := (List.findIdx?_eq_some_iff_getElem.1 hfi).1
    have hg : kvs[j]? = some kvs[j] := by simp
    simp only [Option.bind_some, hg, Option.map_some] at hf ⊢
    simp [execOp, Instr.lookup, run_underlying hU, run_underlying hK, hx, hy, hgo, hck, Instr.findKey, hf]
theorem run_lookupV {t kt et b : Nat} {q kd : IntKind} {k : Int} {x y : Operand} {z v : Value} {kvs : List KV} {ck : Nat} (hb : w.heap[b]? = some (mapO kd kvs ck)) (hU : P.underlying t = some (.map kt et)) (hK : P.underlying kt = some (.int q)) (hZ : ∀ w, (zeroValue et).run P w = .ok z w) (hx : ρ x = .map (some b)) (hy : ρ y = .int kd k) (hv : (lookM kvs k).getD z = v) :
    (execOp ρ ⟨d, .lookup t x y false, ty, pos, af, g⟩).run P w = .ok (.value v) w := by rw [← hv]; exact run_lookupH hb hU hK hZ hx hy
theorem run_insKey {kd : IntKind} {k : Int} : (Instr.keyThatStays (.int kd k) (.int kd k)).run P w = .ok (.int kd k) w := by
  have h : ∀ n, Instr.sameBits n (.int kd k) (.int kd k) = true := fun n => by cases n <;> simp [Instr.sameBits]
  unfold Instr.keyThatStays
  rw [if_pos (h 10000)]
  rfl
theorem put_modify {kd : IntKind} {k : Int} {v : Value} {kvs : List KV} {j : Nat} (hn : (kvs.map (·.1)).Nodup) (hj : (kvs.findIdx? fun x => x.1 == k) = some j) (ck : Nat) :
    ((kvs.map (ent kd)).toArray.modify j fun e => { e with key := .int kd k, val := v }) = ((putM kvs k v ck).map (ent kd)).toArray := by
  obtain ⟨hlt, hk, _⟩ := List.findIdx?_eq_some_iff_getElem.1 hj
  have hany : kvs.any (fun x => x.1 == k) = true := List.any_eq_true.2 ⟨kvs[j], by simp, hk⟩
  have hkj : kvs[j].1 = k := by simpa using hk
  unfold putM
  rw [if_pos hany]
  apply Array.ext
  · simp
  · intro i h1 h2
    simp at h1 h2
    by_cases hij : i = j
    · subst hij
      simp [Array.getElem_modify, ent, hkj]
    · have hne : kvs[i].1 ≠ k := by
        intro he
        have h3 : (kvs.map (·.1))[i]'(by simpa using h1) = (kvs.map (·.1))[j]'(by simpa using hlt) := by simp [he, hkj]
        exact hij ((List.getElem_inj hn).1 h3)
      simp [Array.getElem_modify, Ne.symm hij, hne]
theorem fit_put {kvs : List KV} {k : Int} {v : Value} {ck : Nat} (h : fitM kvs ck) : fitM (putM kvs k v ck) (clockM kvs k ck) := by
  obtain ⟨h1, h2, h3⟩ := h
  unfold putM clockM
  by_cases ha : kvs.any (fun x => x.1 == k) = true
  · rw [if_pos ha, if_pos ha]
    have e1 : (kvs.map fun x => if x.1 = k then (k, v, x.2.2) else x).map (·.1) = kvs.map (·.1) := by
      rw [List.map_map]
      refine List.map_congr_left fun x _ => ?_
      show (if x.1 = k then (k, v, x.2.2) else x).1 = x.1
      split
      · rename_i he; exact he.symm
      · rfl
    have e2 : (kvs.map fun x => if x.1 = k then (k, v, x.2.2) else x).map (·.2.2) = kvs.map (·.2.2) := by
      rw [List.map_map]
      refine List.map_congr_left fun x _ => ?_
      show (if x.1 = k then (k, v, x.2.2) else x).2.2 = x.2.2
      split <;> rfl
    refine ⟨by rw [e1]; exact h1, by rw [e2]; exact h2, fun x hx => ?_⟩
    obtain ⟨y, hy, rfl⟩ := List.mem_map.1 hx
    have := h3 y hy
    split <;> exact this
  · rw [if_neg ha, if_neg ha]
    refine ⟨?_, ?_, fun x hx => ?_⟩
    · rw [List.map_append]
      refine List.nodup_append.2 ⟨h1, by simp, ?_⟩
      intro a ha1 b hb1
      simp at hb1
      subst hb1
      rintro rfl
      obtain ⟨y, hy, he⟩ := List.mem_map.1 ha1
      exact ha (List.any_eq_true.2 ⟨y, hy, by simpa using he⟩)
    · rw [List.map_append]
      refine List.nodup_append.2 ⟨h2, by simp, ?_⟩
      intro a ha1 b hb1
      simp at hb1
      subst hb1
      rintro rfl
      obtain ⟨y, hy, he⟩ := List.mem_map.1 ha1
      have := h3 y hy
      omega
    · rcases List.mem_append.1 hx with hx | hx
      · have := h3 x hx; omega
      · simp at hx; subst hx; show ck < ck + 1; omega
theorem eff_mapUpdate {t kt et b : Nat} {q kd : IntKind} {k : Int} {m y x : Operand} {v : Value} {kvs : List KV} {ck : Nat} (H : On W0 (MapC b kd kvs ck :: L) w) (hU : P.underlying t = some (.map kt et)) (hK : P.underlying kt = some (.int q)) (hm : ρ m = .map (some b)) (hy : ρ y = .int kd k) (hx : ρ x = v) :
    Eff P ρ ⟨d, .mapUpdate t m y x, ty, pos, af, g⟩ w (fun _ w' => On W0 (MapC b kd (putM kvs k v ck) (clockM kvs k ck) :: L) w') := by
  obtain ⟨hfit, hb⟩ := H.mapC
  have hO := H.mapSet (fit_put (k := k) (v := v) hfit)
  have hf := findNow_ints (q := q) (kd := kd) (k := k) kvs 0
  have hgo : (getObj b).run P w = .ok (mapO kd kvs ck) w := MapKept.run_getObj_map (by exact hb)
  have hso : ∀ o, (setObj b o).run P w = .ok () { w with heap := w.heap.setIfInBounds b o } := fun o => MapKept.run_setObj_map o (by exact hb)
  unfold mapO at hgo
  have hck : ∀ e, (Instr.checkKey e 10000 kt (.int kd k)).run P w = .ok () w := fun e => checkKey_int hK e 9999
  refine .inr (.inl ⟨_, ?_, hO⟩)
  cases hfi : kvs.findIdx? fun x => x.1 == k with
  | none =>
    rw [hfi] at hf
    simp only [Option.bind_none] at hf
    have hany : kvs.any (fun x => x.1 == k) = false := by
      rw [List.any_eq_false]; intro x hx; have := List.findIdx?_eq_none_iff.1 hfi x hx; simp [this]
    have e1 : mapO kd (putM kvs k v ck) (clockM kvs k ck) = .map ((kvs.map (ent kd)).toArray.push { key := .int kd k, val := v, born := ck }) (ck + 1) := by
      unfold mapO putM clockM
      rw [if_neg (by rw [hany]; decide), if_neg (by rw [hany]; decide)]
      simp [ent]
    rw [e1]
    simp [execOp, Instr.mapUpdate, run_underlying hU, run_underlying hK, hm, hy, hx, hgo, hck, Instr.findKey, hf, hso]
  | some j =>
    rw [hfi] at hf
    have hj := (List.findIdx?_eq_some_iff_getElem.1 hfi).1
    have hkk := (List.findIdx?_eq_some_iff_getElem.1 hfi).2.1
    have hg : kvs[j]? = some kvs[j] := by simp
    simp only [Option.bind_some, hg, Option.map_some, Nat.zero_add] at hf
    have hany : kvs.any (fun x => x.1 == k) = true := List.any_eq_true.2 ⟨kvs[j], by simp, hkk⟩
    have hkj : kvs[j].1 = k := by simpa using hkk
    have e1 : mapO kd (putM kvs k v ck) (clockM kvs k ck) = .map ((kvs.map (ent kd)).toArray.modify j fun e => { e with key := .int kd k, val := v }) ck := by
      unfold mapO clockM
      rw [if_pos hany, put_modify hfit.1 hfi ck]
    rw [e1]
    have hold : ((((kvs.map (ent kd)).toArray[j]?).map (·.key)).getD (.int kd k)) = .int kd k := by simp [hg, ent, hkj]
    simp [execOp, Instr.mapUpdate, run_underlying hU, run_underlying hK, hm, hy, hx, hgo, hck, Instr.findKey, hf, hso, hg, ent, hkj, run_insKey]
theorem eff_clearMap {t kt et b : Nat} {kd : IntKind} {x : Operand} {kvs : List KV} {ck : Nat} {tys : Array TypeId} (H : On W0 (MapC b kd kvs ck :: L) w) (ht : tys[0]? = some t) (hU : P.underlying t = some (.map kt et)) (hx : ρ x = .map (some b)) :
    Eff P ρ ⟨d, .call { callee := .builtin .clear, args := #[x], argTypes := tys }, ty, pos, af, g⟩ w (fun v w' => On W0 (MapC b kd [] ck :: L) w') := by
  obtain ⟨hfit, hb⟩ := H.mapC
  have hO := H.mapSet (kvs' := []) (ck' := ck) ⟨List.nodup_nil, List.nodup_nil, fun x hx => by cases hx⟩
  have hgo : (getObj b).run P w = .ok (mapO kd kvs ck) w := MapKept.run_getObj_map (by exact hb)
  have hso : ∀ o, (setObj b o).run P w = .ok () { w with heap := w.heap.setIfInBounds b o } := fun o => MapKept.run_setObj_map o (by exact hb)
  unfold mapO at hgo
  refine .inl ⟨.tuple #[], _, ?_, hO⟩
  have e1 : mapO kd [] ck = .map #[] ck := rfl
  rw [e1]
  simp [execOp, resolve, invoke, builtin, hx, Builtin.clear_, ht, run_underlying hU, hgo, hso]
/-- An iterator over a map that does not turn. -/
def IterC (r b : Nat) (seen : Array Nat) (ck : Nat) : HProp := pts r (.mapIter (some b) ck seen ck)
def remM (kvs : List KV) (seen : Array Nat) : List KV := kvs.filter fun x => !seen.contains x.2.2
theorem eff_range {t kt et b : Nat} {kd : IntKind} {x : Operand} {kvs : List KV} {ck : Nat} (H : On W0 (MapC b kd kvs ck :: L) w) (hU : P.underlying t = some (.map kt et)) (hx : ρ x = .map (some b)) :
    Eff P ρ ⟨d, .range t x, ty, pos, af, g⟩ w (fun v w' => ∃ r, v = .pointer (some ⟨r, 0, none⟩) ∧ On W0 (IterC r b #[] ck :: MapC b kd kvs ck :: L) w') := by
  have hb := H.mapC.2
  have hr := run_range_map (P := P) w t kt et b (kvs.map (ent kd)).toArray ck hU hb
  refine .inl ⟨_, _, ?_, w.heap.size, rfl, H.alloc _⟩
  simp [execOp, hx, hr]
theorem eff_next {r b : Nat} {kd : IntKind} {x : Operand} {seen : Array Nat} {kvs : List KV} {ck : Nat} (H : On W0 (IterC r b seen ck :: MapC b kd kvs ck :: L) w) (hx : ρ x = .pointer (some ⟨r, 0, none⟩)) :
    Eff P ρ ⟨d, .next x false, ty, pos, af, g⟩ w (fun v w' => (remM kvs seen = [] ∧ v = .tuple #[.bool false] ∧ On W0 (IterC r b seen ck :: MapC b kd kvs ck :: L) w') ∨
      (∃ e ∈ remM kvs seen, v = .tuple #[.bool true, .int kd e.1, e.2.1] ∧ On W0 (IterC r b (seen.push e.2.2) ck :: MapC b kd kvs ck :: L) w')) := by
  have hr : w.heap[r]? = some (.mapIter (some b) ck seen ck) := H.block 0 rfl
  obtain ⟨hfit, hb⟩ := H.tail.mapC
  have hleft : (leftOf (kvs.map (ent kd)).toArray seen).toList = (remM kvs seen).map (ent kd) := by
    unfold leftOf remM
    rw [show ((kvs.map (ent kd)).toArray.filter fun e => !seen.contains e.born).toList = (kvs.map (ent kd)).filter (fun e => !seen.contains e.born) by simp, List.filter_map]
    rfl
  rcases run_next_at (P := P) w ty r b ck ck seen (kvs.map (ent kd)).toArray ck hr hb (fun y hy => by
    simp at hy
    obtain ⟨a1, a2, a3, hy, rfl⟩ := hy
    exact hfit.2.2 _ hy) (Nat.le_refl _) with ⟨h0, hrun⟩ | ⟨e, he, w1, hw1, hrun⟩
  · have hnil : remM kvs seen = [] := by
      have : (leftOf (kvs.map (ent kd)).toArray seen).toList.length = 0 := by simpa using h0
      rw [hleft] at this
      exact List.eq_nil_of_length_eq_zero (by simpa using this)
    refine .inl ⟨_, w, ?_, .inl ⟨hnil, rfl, H⟩⟩
    simp [execOp, hx, hrun]
  · rw [hleft] at he
    obtain ⟨y, hy, rfl⟩ := List.mem_map.1 he
    have H1 : On W0 (IterC r b seen ck :: MapC b kd kvs ck :: L) w1 := by rcases hw1 with rfl | rfl; exact H; exact H.drew
    have hr1 : w1.heap[r]? = some (.mapIter (some b) ck seen ck) := H1.block 0 rfl
    have hlt : r < w1.heap.size := (Array.getElem?_eq_some_iff.1 hr1).1
    refine .inl ⟨.tuple #[.bool true, .int kd y.1, y.2.1], _, by simp [execOp, hx, hrun, ent]; rfl, .inr ⟨y, hy, rfl, ?_⟩⟩
    refine H1.set 0 rfl rfl rfl rfl ?_ ?_ ?_
    · simp [ChangeMaps.setBlock]
    · simp [ChangeMaps.setBlock, Array.getElem?_setIfInBounds, hlt, ent]
    · intro k hk
      simp [ChangeMaps.setBlock, Array.getElem?_setIfInBounds, Ne.symm hk]
theorem run_entryM {r b : Nat} {kd : IntKind} {x : Operand} {seen : Array Nat} {kvs : List KV} {ck : Nat} {e : KV} (H : On W0 (IterC r b (seen.push e.2.2) ck :: MapC b kd kvs ck :: L) w) (he : e ∈ kvs) (hx : ρ x = .pointer (some ⟨r, 0, none⟩)) :
    (execOp ρ ⟨d, .entry x, ty, pos, af, g⟩).run P w = .ok (.value (.tuple #[.int kd e.1, e.2.1])) w := by
  have hr : w.heap[r]? = some (.mapIter (some b) ck (seen.push e.2.2) ck) := H.block 0 rfl
  obtain ⟨hfit, hb⟩ := H.tail.mapC
  have h1 := run_entry_at (P := P) w r b ck seen (kvs.map (ent kd)).toArray ck (ent kd e) hr hb (by simpa using ⟨e.1, e.2.1, e.2.2, he, rfl⟩) (by
    have : ((kvs.map (ent kd)).toArray.toList.map (·.born)) = kvs.map (·.2.2) := by simp [Function.comp_def, ent]
    rw [this]; exact hfit.2.1)
  simp [execOp, hx, h1, ent]
end
end Go.Sl
/-
  As many parts as a list is long.
-/
namespace Go.Sl
open Go
set_option linter.unusedVariables false
def Big {α : Type} (A : α → HProp) (l : List α) : HProp := star (l.map A)
section
variable {α : Type} {A : α → HProp} {l l' : List α} {W0 w : World} {L : List HProp}
theorem map_eraseIdxS (f : α → HProp) : ∀ (l : List α) (i : Nat), (l.map f).eraseIdx i = (l.eraseIdx i).map f
  | [], _ => by simp
  | _ :: _, 0 => by simp
  | x :: l, i + 1 => by simp [map_eraseIdxS f l i]
theorem Big.nil (H : On W0 L w) : On W0 (Big A [] :: L) w := H.new fun h => trivial
theorem Big.perm (p : l.Perm l') (H : On W0 (Big A l :: L) w) : On W0 (Big A l' :: L) w := H.head fun h s => Sat.perm (p.map A) s
/-- One of them, to the front. -/
theorem Big.open {i : Nat} {x : α} (hx : l[i]? = some x) (H : On W0 (Big A l :: L) w) : On W0 (A x :: Big A (l.eraseIdx i) :: L) w := by
  have h1 := H.unstar
  have h2 := h1.pull i (A := A x) (by
    have hlt := (List.getElem?_eq_some_iff.1 hx).1
    rw [List.getElem?_append_left (by simpa using hlt), List.getElem?_map, hx]; rfl)
  have hlt := (List.getElem?_eq_some_iff.1 hx).1
  rw [List.eraseIdx_append_of_lt_length (by simpa using hlt), map_eraseIdxS] at h2
  have h3 : On W0 ((A x :: (l.eraseIdx i).map A) ++ L) w := h2
  have h4 : On W0 (([A x] ++ ((l.eraseIdx i).map A)) ++ L) w := h3
  rw [List.append_assoc] at h4
  have h5 : On W0 (A x :: ((l.eraseIdx i).map A ++ L)) w := h4
  exact h5.imp fun h s => s.tailImp fun k s' => Sat.toStar s'
/-- Back again, another one, in its place. -/
theorem Big.close {i : Nat} {y : α} (hi : i < l.length) (H : On W0 (A y :: Big A (l.eraseIdx i) :: L) w) : On W0 (Big A (l.set i y) :: L) w := by
  have h1 : On W0 (A y :: ((l.eraseIdx i).map A ++ L)) w := H.imp fun h s => s.tailImp fun k s' => Sat.unstar s'
  have h2 : On W0 ((A y :: (l.eraseIdx i).map A) ++ L) w := h1
  have h3 : On W0 (Big A (y :: l.eraseIdx i) :: L) w := On.toStar h2
  refine Big.perm ?_ h3
  have e1 : l.set i y = l.take i ++ y :: l.drop (i + 1) := by rw [List.set_eq_take_append_cons_drop, if_pos hi]
  have e2 : l.eraseIdx i = l.take i ++ l.drop (i + 1) := List.eraseIdx_eq_take_drop_succ ..
  rw [e1, e2]
  exact List.perm_middle.symm
theorem Big.push {y : α} (H : On W0 (A y :: Big A l :: L) w) : On W0 (Big A (l ++ [y]) :: L) w := by
  have h1 : On W0 (A y :: (l.map A ++ L)) w := H.imp fun h s => s.tailImp fun k s' => Sat.unstar s'
  have h2 : On W0 ((A y :: l.map A) ++ L) w := h1
  have h3 : On W0 (Big A (y :: l) :: L) w := On.toStar h2
  exact Big.perm (List.perm_append_singleton y l).symm h3
end
end Go.Sl
/-
  Texts put together.
-/
namespace Go.Sl
open Go
section
variable {P : Program} {w : World} {ρ : Operand → Value} {d : Option Nat} {ty : TypeId} {pos : String} {af : Array Edge} {g : Option (Nat × Bool)}
theorem run_addStr {t yt : TypeId} {x y : Operand} {a b : List UInt8} (hx : ρ x = .string ⟨a.toArray⟩) (hy : ρ y = .string ⟨b.toArray⟩) (h : a.length + b.length ≤ 9223372036854775807) :
    (execOp ρ ⟨d, .binOp .add t x y yt, ty, pos, af, g⟩).run P w = .ok (.value (.string ⟨(a ++ b).toArray⟩)) w := by
  have h1 := run_string_add_sum (P := P) (w := w) ⟨a.toArray⟩ ⟨b.toArray⟩ (by simpa [ByteArray.size] using h)
  have e : (⟨a.toArray⟩ : ByteArray) ++ ⟨b.toArray⟩ = ⟨(a ++ b).toArray⟩ := by
    apply ByteArray.ext
    rw [ByteArray.data_append]
    simp
  rw [e] at h1
  simp [execOp, eqGuard, hx, hy, binOp, h1]
end
end Go.Sl
namespace Go.Sl
open Go
section
variable {P : Program} {W0 w : World} {L L' : List HProp} {ρ : Operand → Value} {d : Option Nat} {ty : TypeId} {pos : String} {af : Array Edge} {g : Option (Nat × Bool)}
theorem append_types {t t2 e e2 : TypeId} {v y : Value} (hU : P.underlying t = some (.slice e)) (hU2 : P.underlying t2 = some (.slice e2)) : (Builtin.append_ #[t, t2] ty #[v, y]).run P w = (Builtin.append_ #[t, t] ty #[v, y]).run P w := by
  cases v <;> simp [Builtin.append_, run_underlying hU, run_underlying hU2]
/-- append(s, y...) where y's type has another name. -/
theorem eff_appT {t t2 e e2 size n m bytes c1 c2 : Nat} {a1 a2 : Option Addr} {z : Value} {xs ys : List Value} {i : TypeInfo} {sx sy : Operand} (H : On W0 L w) (hs : ρ sx = .slice a1 n c1) (hy : ρ sy = .slice a2 m c2) [p : OwnIn L (.slice a1 n c1) size n xs L'] (C : Cells size (.slice a2 m c2) m ys (hp w))
    (hU : P.underlying t = some (.slice e)) (hU2 : P.underlying t2 = some (.slice e2)) (hI : P.info? e = some i) (hsz : i.size = size) (hby : i.bytes = bytes) (hz : i.zero = some z) (hzs : z.cells.size = size)
    (h63 : n + m ≤ maxLen) (hb : (n + m) * bytes ≤ 140737488355328) (h1c : ∀ u ∈ ys, u.oneCell' = true) :
    Eff P ρ ⟨d, .call { callee := .builtin .append, args := #[sx, sy], argTypes := #[t, t2] }, ty, pos, af, g⟩ w (Grown size (n + m) (xs ++ ys) W0 L') := by
  obtain ⟨v', w', hr, hG⟩ := append_own (ty := ty) (H.imp p.out) C hU hI hsz hby hz hzs h63 hb h1c
  refine .inl ⟨v', w', ?_, hG⟩
  have hr2 := append_types (ty := ty) (w := w) (v := .slice a1 n c1) (y := .slice a2 m c2) hU hU2
  rw [hr] at hr2
  simp [execOp, resolve, invoke, builtin, hs, hy, hr2]
end
end Go.Sl
/-
  append(s, make([]T, n)...): the model's form with a number.
-/
namespace Go.Sl
open Go
set_option linter.unusedVariables false
set_option linter.unusedSimpArgs false
section
variable {P : Program} {W0 w : World} {L L' : List HProp} {ρ : Operand → Value} {d : Option Nat} {ty : TypeId} {pos : String} {af : Array Edge} {g : Option (Nat × Bool)}
theorem append_zeros {t t2 e size n m bytes : Nat} {v z : Value} {xs ys : List Value} {i : TypeInfo} {ty : TypeId} (H : On W0 (Own size v n xs :: L) w) 
    (hU : P.underlying t = some (.slice e)) (hU2 : P.underlying t2 = some (.int .i64)) (hys : ys = (Builtin.zeroCells z.cells m).toList) (hI : P.info? e = some i) (hsz : i.size = size) (hby : i.bytes = bytes) (hz : i.zero = some z) (hzs : z.cells.size = size) (hone : i.size = 1)
    (h63 : n + m ≤ maxLen) (hb : (n + m) * bytes ≤ 140737488355328) (h1c : ∀ u ∈ ys, u.oneCell' = true) :
    ∃ v' w', (Builtin.append_ #[t, t2] ty #[v, .int .i64 (m : Int)]).run P w = .ok v' w' ∧ Grown size (n + m) (xs ++ ys) W0 L v' w' := by
  subst hsz
  subst hby
  have hylen : ys.length = m * i.size := by rw [hys]; simp [size_zeroCells, hzs]
  have hw1 : IntKind.i64.wrap (m : Int) = (m : Int) := IntWalk.i64_in _ ⟨by omega, by simp only [maxLen] at h63; omega⟩
  have hneg : ¬ ((m : Int) < 0) := by omega
  have hw0 : IntKind.i64.wrap 0 = 0 := by decide
  have hbig : ¬ ((281474976710656 : Int) < (m : Int) * (i.bytes : Int)) := by
    have h1 : m * i.bytes ≤ (n + m) * i.bytes := Nat.mul_le_mul_right _ (by omega)
    have h2 : (m : Int) * (i.bytes : Int) = ((m * i.bytes : Nat) : Int) := by simp
    rw [h2]; omega
  have happ : ∀ w : World, (if m * i.size = 0 then (pure #[] : Sem (Array Value)) else do pure (Builtin.zeroCells (← zeroValue e).cells m)).run P w = .ok ys.toArray w := by
    intro w
    by_cases h0 : m * i.size = 0
    · have : ys = [] := List.eq_nil_of_length_eq_zero (by rw [hylen, h0])
      rw [if_pos h0, this]; rfl
    · rw [if_neg h0]
      simp [zeroValue, typeInfo, hI, hz, hys]
  have hO := H.get 0 rfl (Own_mono _ _ _ _)
  have Cx := hO.cells
  have hxlen : xs.length = n * i.size := hO.1
  have hm63 : ((n + m : Nat) : Int) ≤ 9223372036854775807 := by simp only [maxLen] at h63; omega
  -- a new row
  have grow : ∀ (ao : Option Addr) (cap : Nat), v = .slice ao n cap → cap < n + m → ∃ v' w', (Builtin.append_ #[t, t2] ty #[v, .int .i64 (m : Int)]).run P w = .ok v' w' ∧ Grown i.size (n + m) (xs ++ ys) W0 L v' w' := by
    intro ao cap hv hcap
    have hne : ¬ (n + m ≤ cap) := by omega
    have h63' : ¬ (9223372036854775807 < ((n : Int) + (m : Int))) := by omega
    have h48' : ¬ (281474976710656 < Builtin.nextslicecap (n + m) cap * i.bytes) := by
      have := growslice_fits (old := cap) (by omega) hb; omega
    have Cxd : Cells i.size v n xs (hp w.drew) := Cx
    have hfd := happ w.drew
    have hfx := run_firstCells_C (P := P) Cxd
    subst hv
    refine ⟨.slice (some ⟨w.heap.size, 0, none⟩) (n + m) (grownCap w (n + m) cap e), w.drew.alloc (.cells (xs.toArray ++ ys.toArray ++ Builtin.zeroCells z.cells (grownCap w (n + m) cap e - (n + m))) e), ?_, ?_⟩
    · obtain ⟨hnc, _⟩ := Cells.bounds Cx
      have hm0 : ¬ m = 0 := by omega
      have hfx1 := hfx
      rw [hone] at hfx1
      simp [Builtin.append_, run_underlying hU, run_underlying hU2, asInt, asIntOf, sizeOf, typeInfo, zeroValue, hI, hz, hw1, hneg, hbig, hne, h63', h48', Question.forced, hfx1, newRow, grownCap, hm0, hone, hys]
    · refine ⟨_, _, rfl, ?_⟩
      have hge := grownCap_ge w (n + m) cap e
      have hcm : grownCap w (n + m) cap e ≤ maxLen := grownCap_le_maxLen w (n + m) cap e h63
      have hA := (H.tail.drew).alloc (.cells (xs.toArray ++ ys.toArray ++ Builtin.zeroCells z.cells (grownCap w (n + m) cap e - (n + m))) e)
      refine hA.head fun h hh => ⟨by simp [hxlen, hylen, Nat.add_mul], .inr ⟨w.heap.size, 0, grownCap w (n + m) cap e, xs ++ ys ++ (Builtin.zeroCells z.cells (grownCap w (n + m) cap e - (n + m))).toList, e, (0, 0), rfl, hge, hcm, ?_, ?_, ?_, ?_⟩⟩
      · simp only [List.length_append, hxlen, hylen, Array.length_toList, size_zeroCells, hzs, ← Nat.add_mul]
        rw [Nat.zero_add]
        apply Nat.le_of_eq; congr 1; omega
      · rw [List.drop_zero]
        have : (n + m) * i.size = (xs ++ ys).length := by simp [hxlen, hylen, Nat.add_mul]
        rw [this]
        exact List.take_left
      · exact .inl rfl
      · have hh' : h w.drew.heap.size = _ := hh
        rw [show w.drew.heap.size = w.heap.size from rfl] at hh'
        rw [hh']
        simp [obj]
  rcases (Own.openOn H).2 with ⟨rfl, ao, rfl⟩ | ⟨gb, off, cap, cur, e', fr, rfl, hnc, hcm, hfit, htake, hfree, Hb⟩
  · by_cases hm : m = 0
    · subst hm
      have hy0 : ys = [] := List.eq_nil_of_length_eq_zero (by simpa using hylen)
      have hx0 : xs = [] := List.eq_nil_of_length_eq_zero (by simpa using hxlen)
      subst hy0; subst hx0
      refine ⟨.slice ao 0 0, w, ?_, ⟨ao, 0, rfl, H⟩⟩
      cases ao <;> simp [Builtin.append_, run_underlying hU, run_underlying hU2, asInt, asIntOf, sizeOf, typeInfo, hI, storeCells, hw0]
    · exact grow ao 0 rfl (by omega)
  · by_cases hroom : n + m ≤ cap
    · have hfit' : off + n * i.size + ys.length ≤ cur.length := by
        rw [hylen]
        have : (n + m) * i.size ≤ cap * i.size := Nat.mul_le_mul_right _ hroom
        rw [Nat.add_mul] at this
        omega
      have hcapm : off + n * i.size + ys.length ≤ off + cap * i.size := by
        rw [hylen]
        have : (n + m) * i.size ≤ cap * i.size := Nat.mul_le_mul_right _ hroom
        rw [Nat.add_mul] at this
        omega
      obtain ⟨w', hst, hO'⟩ := Hb.storeCells (P := P) 0 rfl (off + n * i.size) ys hfit' h1c (fun k h1 h2 => free_ok hfree (by omega))
      refine ⟨.slice (some ⟨gb, off, none⟩) (n + m) cap, w', ?_, _, _, rfl, ?_⟩
      · have hst1 := hst
        rw [hone, Nat.mul_one] at hst1
        by_cases hm0 : m = 0
        · have hy0 : ys = [] := List.eq_nil_of_length_eq_zero (by rw [hylen, hm0, Nat.zero_mul])
          rw [hy0] at hst1
          have hroom0 : n ≤ cap := by omega
          simp [Builtin.append_, run_underlying hU, run_underlying hU2, asInt, asIntOf, sizeOf, typeInfo, hI, hw0, hm0, hroom0, Addr.add_mk, hone] at hst1 ⊢
          rw [hst1]
          simp
        · have hy1 : (Builtin.zeroCells z.cells m).toList = ys := hys.symm
          simp [Builtin.append_, run_underlying hU, run_underlying hU2, asInt, asIntOf, sizeOf, typeInfo, zeroValue, hz, hI, hw1, hneg, hbig, hroom, Addr.add_mk, hm0, hone, hy1, hst1]
      · have e1 := take_splice (m := (n + m) * i.size) htake hxlen hfit' (by rw [hylen, Nat.add_mul])
        exact Own.closeOn (e := e') (fr := fr) hO' (by simp [hxlen, hylen, Nat.add_mul]) hroom hcm (by rw [splice_length hfit']; exact hfit) e1 (by rw [splice_length hfit']; exact hfree)
    · exact grow (some ⟨gb, off, none⟩) cap rfl (by omega)


theorem eff_appZ {t t2 e n m bytes c : Nat} {a : Option Addr} {z : Value} {xs : List Value} {i : TypeInfo} {sx sy : Operand} (H : On W0 L w) (hs : ρ sx = .slice a n c) (hy : ρ sy = .int .i64 (m : Int)) [p : OwnIn L (.slice a n c) 1 n xs L']
    (hU : P.underlying t = some (.slice e)) (hU2 : P.underlying t2 = some (.int .i64)) (hI : P.info? e = some i) (hsz : i.size = 1) (hby : i.bytes = bytes) (hz : i.zero = some z) (hzs : z.cells = #[z])
    (h63 : n + m ≤ maxLen) (hb : (n + m) * bytes ≤ 140737488355328) (h1c : z.oneCell' = true) :
    Eff P ρ ⟨d, .call { callee := .builtin .append, args := #[sx, sy], argTypes := #[t, t2] }, ty, pos, af, g⟩ w (Grown 1 (n + m) (xs ++ List.replicate m z) W0 L') := by
  obtain ⟨v', w', hr, hG⟩ := append_zeros (ty := ty) (t2 := t2) (m := m) (ys := List.replicate m z) (H.imp p.out) hU hU2 (by rw [hzs, zeroOne]) hI hsz hby hz (by rw [hzs]; rfl) hsz h63 hb (fun u hu => by rw [List.eq_of_mem_replicate hu]; exact h1c)
  refine .inl ⟨v', w', ?_, hG⟩
  simp [execOp, resolve, invoke, builtin, hs, hy, hr]
end
end Go.Sl
/-
  Rows of byte slices and rows of numbers as arguments.
-/
namespace Go.Sl
open Go
set_option linter.unusedVariables false
/-- A byte slice as an element of a row: its place, its capacity, its bytes. -/
abbrev BX := Option Addr × Nat × List UInt8
def BX.b (x : BX) : List UInt8 := x.2.2
def BX.v (x : BX) : Value := .slice x.1 x.2.2.length x.2.1
theorem rd_bytesRows {P : Program} {W : World} {t e u : TypeId} (ht : P.underlying t = some (.slice e)) (he : P.underlying e = some (.slice u)) (hu : P.underlying u = some (.int .u8)) (hc : P.cellsOf e = 1) (hcu : P.cellsOf u = 1) :
    Rd P W t (fun cs => ∃ a c, ∃ l : List BX, cs = [.slice a l.length c] ∧ (∀ x ∈ l, Bytes x.v x.b (hp W)) ∧ Cells 1 (.slice a l.length c) l.length (l.map BX.v) (hp W)) :=
  (rd_sliceOf (α := BX) (Q := fun x => Bytes x.v x.b (hp W)) (f := fun x => [x.v]) ht hc (by omega) ((rd_bytes he hu hcu).mono fun cs ⟨a, c, bs, h1, h2⟩ => ⟨(a, c, bs), h1, h2⟩)).mono fun cs ⟨a, c, l, h1, h2, h3⟩ => ⟨a, c, l, h1, h2, by rw [flatMap_single] at h3; exact h3⟩
theorem rd_ints {P : Program} {W : World} {t e : TypeId} {k : IntKind} (ht : P.underlying t = some (.slice e)) (he : P.underlying e = some (.int k)) (hc : P.cellsOf e = 1) :
    Rd P W t (fun cs => ∃ a c, ∃ l : List Int, cs = [.slice a l.length c] ∧ (∀ x ∈ l, (Lit.int k x).wf = true) ∧ Cells 1 (.slice a l.length c) l.length (l.map (.int k)) (hp W)) :=
  (rd_sliceOf (α := Int) (Q := fun x => (Lit.int k x).wf = true) (f := fun x => [.int k x]) ht hc (by omega) ((rd_int he).mono fun cs ⟨z, h1, h2⟩ => ⟨z, h1, h2⟩)).mono fun cs ⟨a, c, l, h1, h2, h3⟩ => ⟨a, c, l, h1, h2, by rw [flatMap_single] at h3; exact h3⟩
theorem row_v {l : List BX} {i : Nat} {x : BX} (h : l[i]? = some x) : ((l.map BX.v).drop (i * 1)).take 1 = [.slice x.1 x.2.2.length x.2.1] := by
  have hlt := (List.getElem?_eq_some_iff.1 h).1
  have hx := (List.getElem?_eq_some_iff.1 h).2
  rw [Nat.mul_one, List.drop_eq_getElem_cons (by simpa using hlt), List.take_succ_cons, List.take_zero, List.getElem_map, hx]
  rfl
theorem take_snoc {α : Type} {l : List α} {i : Nat} {x : α} (h : l[i]? = some x) : l.take (i + 1) = l.take i ++ [x] := by rw [List.take_add_one, h]; rfl
end Go.Sl
namespace Go.Sl
open Go
theorem Gives.nilC {L : List HProp} {size : Nat} : Gives L (Cells size (.slice none 0 0) 0 []) := fun h _ => ⟨by simp, none, 0, rfl, Nat.le_refl _, by simp, fun _ => rfl, fun h => absurd h (by simp)⟩
end Go.Sl
/-
  Structs of three numbers compared; three results, the first of them a struct.
-/
namespace Go.Sl
open Go
set_option linter.unusedVariables false
section
variable {P : Program} {W0 w : World} {L : List HProp} {ρ : Operand → Value} {d : Option Nat} {ty : TypeId} {pos : String} {af : Array Edge} {g : Option (Nat × Bool)}
theorem eqIn3 {t : TypeId} {f1 f2 f3 : Field} {k1 k2 k3 j1 j2 j3 : IntKind} {a1 a2 a3 b1 b2 b3 : Int} (hU : P.underlying t = some (.struct #[f1, f2, f3])) (hn1 : f1.name ≠ "_") (hn2 : f2.name ≠ "_") (hn3 : f3.name ≠ "_")
    (ho1 : f1.offset = 0) (ho2 : f2.offset = 1) (ho3 : f3.offset = 2) (hE1 : P.underlying f1.type = some (.int j1)) (hE2 : P.underlying f2.type = some (.int j2)) (hE3 : P.underlying f3.type = some (.int j3))
    (hA1 : ∀ w, (isAgg f1.type).run P w = .ok false w) (hA2 : ∀ w, (isAgg f2.type).run P w = .ok false w) (hA3 : ∀ w, (isAgg f3.type).run P w = .ok false w) (hH : P.stoodInHeld t = false) :
    (Op.equalIn 10000 t (.agg #[.int k1 a1, .int k2 a2, .int k3 a3]) (.agg #[.int k1 b1, .int k2 b2, .int k3 b3])).run P w = .ok (decide (a1 = b1 ∧ a2 = b2 ∧ a3 = b3)) w := by
  have e1 : ∀ a b : Int, (Op.equalIn 9999 f1.type (.int k1 a) (.int k1 b)).run P w = .ok (a == b) w := fun a b => eqIn_int (P := P) (w := w) hE1 9998
  have e2 : ∀ a b : Int, (Op.equalIn 9999 f2.type (.int k2 a) (.int k2 b)).run P w = .ok (a == b) w := fun a b => eqIn_int (P := P) (w := w) hE2 9998
  have e3 : ∀ a b : Int, (Op.equalIn 9999 f3.type (.int k3 a) (.int k3 b)).run P w = .ok (a == b) w := fun a b => eqIn_int (P := P) (w := w) hE3 9998
  rw [show (10000 : Nat) = 9999 + 1 from rfl]
  unfold Op.equalIn
  by_cases h1 : a1 = b1 <;> by_cases h2 : a2 = b2 <;> by_cases h3 : a3 = b3 <;> simp [run_underlying hU, hH, part, hA1, hA2, hA3, ho1, ho2, ho3, hn1, hn2, hn3, e1, e2, e3, h1, h2, h3]
theorem run_eqlI3 {t yt : TypeId} {x y : Operand} {f1 f2 f3 : Field} {k1 k2 k3 j1 j2 j3 : IntKind} {a1 a2 a3 b1 b2 b3 : Int} (hU : P.underlying t = some (.struct #[f1, f2, f3])) (hn1 : f1.name ≠ "_") (hn2 : f2.name ≠ "_") (hn3 : f3.name ≠ "_")
    (ho1 : f1.offset = 0) (ho2 : f2.offset = 1) (ho3 : f3.offset = 2) (hE1 : P.underlying f1.type = some (.int j1)) (hE2 : P.underlying f2.type = some (.int j2)) (hE3 : P.underlying f3.type = some (.int j3))
    (hA1 : ∀ w, (isAgg f1.type).run P w = .ok false w) (hA2 : ∀ w, (isAgg f2.type).run P w = .ok false w) (hA3 : ∀ w, (isAgg f3.type).run P w = .ok false w) (hH : P.stoodInHeld t = false) (hG : P.eqGuardType P.depth t = false)
    (hx : ρ x = .agg #[.int k1 a1, .int k2 a2, .int k3 a3]) (hy : ρ y = .agg #[.int k1 b1, .int k2 b2, .int k3 b3]) :
    (execOp ρ ⟨d, .binOp .eql t x y yt, ty, pos, af, g⟩).run P w = .ok (.value (.bool (decide (a1 = b1 ∧ a2 = b2 ∧ a3 = b3)))) w := by
  have key := eqIn3 (P := P) (w := w) (k1 := k1) (k2 := k2) (k3 := k3) (a1 := a1) (a2 := a2) (a3 := a3) (b1 := b1) (b2 := b2) (b3 := b3) hU hn1 hn2 hn3 ho1 ho2 ho3 hE1 hE2 hE3 hA1 hA2 hA3 hH
  simp [execOp, eqGuard, hG, hx, hy, binOp, Op.equal, Op.maxDepth, key]
theorem run_neqI3 {t yt : TypeId} {x y : Operand} {f1 f2 f3 : Field} {k1 k2 k3 j1 j2 j3 : IntKind} {a1 a2 a3 b1 b2 b3 : Int} (hU : P.underlying t = some (.struct #[f1, f2, f3])) (hn1 : f1.name ≠ "_") (hn2 : f2.name ≠ "_") (hn3 : f3.name ≠ "_")
    (ho1 : f1.offset = 0) (ho2 : f2.offset = 1) (ho3 : f3.offset = 2) (hE1 : P.underlying f1.type = some (.int j1)) (hE2 : P.underlying f2.type = some (.int j2)) (hE3 : P.underlying f3.type = some (.int j3))
    (hA1 : ∀ w, (isAgg f1.type).run P w = .ok false w) (hA2 : ∀ w, (isAgg f2.type).run P w = .ok false w) (hA3 : ∀ w, (isAgg f3.type).run P w = .ok false w) (hH : P.stoodInHeld t = false) (hG : P.eqGuardType P.depth t = false)
    (hx : ρ x = .agg #[.int k1 a1, .int k2 a2, .int k3 a3]) (hy : ρ y = .agg #[.int k1 b1, .int k2 b2, .int k3 b3]) :
    (execOp ρ ⟨d, .binOp .neq t x y yt, ty, pos, af, g⟩).run P w = .ok (.value (.bool (decide (¬ (a1 = b1 ∧ a2 = b2 ∧ a3 = b3))))) w := by
  have key := eqIn3 (P := P) (w := w) (k1 := k1) (k2 := k2) (k3 := k3) (a1 := a1) (a2 := a2) (a3 := a3) (b1 := b1) (b2 := b2) (b3 := b3) hU hn1 hn2 hn3 ho1 ho2 ho3 hE1 hE2 hE3 hA1 hA2 hA3 hH
  simp [execOp, eqGuard, hG, hx, hy, binOp, Op.equal, Op.maxDepth, key]
theorem val_true {p : Prop} [Decidable p] {o : Oper} {w' : World} (H : (execOp ρ o).run P w = .ok (.value (.bool (decide p))) w') (h : p) : (execOp ρ o).run P w = .ok (.value (.bool true)) w' := by rw [H, decide_eq_true h]
theorem val_false {p : Prop} [Decidable p] {o : Oper} {w' : World} (H : (execOp ρ o).run P w = .ok (.value (.bool (decide p))) w') (h : ¬ p) : (execOp ρ o).run P w = .ok (.value (.bool false)) w' := by rw [H, decide_eq_false h]
end
section
variable {P : Program} {w : World}
theorem results_cell_tmp2 {fn : Func} {p u v : Tmp} {ty : TypeId} (h : fn.results = #[.cell p ty, .tmp u, .tmp v]) (tmps : Array Value) (P : Program) (w : World) :
    (results fn tmps).run P w =
      ((asAddr (tmps.getD p undef)).run P w).andThen fun a w₁ => ((loadVar ty a).run P w₁).andThen fun x w₂ => .ok (.tuple #[x, tmps.getD u undef, tmps.getD v undef]) w₂ := by
  simp only [results, h]
  simp [Sem.run_bind, Result.andThen]
theorem bodyQ.rctt {N : Nat} {env : Env} {fn : Func} {R : Value → World → Prop} {t u v rt b n : Nat} {vs : List Value} {v2 v3 : Value} (h : fn.results = #[.cell t rt, .tmp u, .tmp v]) (hA : ∀ w, (isAgg rt).run P w = .ok true w) (hS : ∀ w, (sizeOf rt).run P w = .ok n w)
    (he : env t = .pointer (some ⟨b, 0, none⟩)) (hl : vs.length = n) (hc : ∀ j u, vs[j]? = some u → w.cell? ⟨b, 0 + j, none⟩ = some u) (h2 : env u = v2) (h3 : env v = v3) (hR : R (.tuple #[.agg vs.toArray, v2, v3]) w) :
    bodyQ P fn R .ret env w := by
  refine ⟨.tuple #[.agg vs.toArray, v2, v3], fun tmps hg => ?_, hR⟩
  have hp : tmps.getD t undef = .pointer (some ⟨b, 0, none⟩) := by rw [hg, he]
  have hp' : tmps[t]?.getD undef = .pointer (some ⟨b, 0, none⟩) := by simpa using hp
  have := run_loadCells_list (P := P) w ⟨b, 0, none⟩ vs (fun j v hv => by rw [Addr.add_mk]; exact hc j v hv)
  rw [hl] at this
  rw [results_cell_tmp2 h, hp]
  simp only [asAddr, Sem.run_pure, Result.andThen_ok]
  simp [loadVar, hA, hS, this, ← h2, ← h3, ← hg u, ← hg v]
theorem bodyQ.rcttB {W0 : World} {L : List HProp} {env : Env} {fn : Func} {R : Value → World → Prop} {t u v rt b n : Nat} {l vs : List Value} {v2 v3 : Value} {e : Nat} {fr : Nat × Nat} (H : On W0 L w) (h : fn.results = #[.cell t rt, .tmp u, .tmp v]) (hA : ∀ w, (isAgg rt).run P w = .ok true w) (hS : ∀ w, (sizeOf rt).run P w = .ok n w)
    (he : env t = .pointer (some ⟨b, 0, none⟩)) [i : HasBlk L b l e fr] (hv : l = vs) (hl : vs.length = n) (h2 : env u = v2) (h3 : env v = v3) (hR : R (.tuple #[.agg vs.toArray, v2, v3]) w) : bodyQ P fn R .ret env w :=
  bodyQ.rctt (N := 0) h hA hS he hl (fun j u hj => by rw [Nat.zero_add]; exact H.cellB (i := i) (by rw [hv]; exact hj)) h2 h3 hR
end
end Go.Sl
/-
  Four and six results; numbers that are not negative.
-/
namespace Go.Sl
open Go
set_option linter.unusedVariables false
section
variable {P : Program} {w : World} {env : Env}
theorem results_tmp4 {fn : Func} {t u x y : Tmp} (h : fn.results = #[.tmp t, .tmp u, .tmp x, .tmp y]) (tmps : Array Value) (P : Program) (w : World) :
    (results fn tmps).run P w = .ok (.tuple #[tmps.getD t undef, tmps.getD u undef, tmps.getD x undef, tmps.getD y undef]) w := by
  simp only [results, h]
  simp
theorem results_tmp6 {fn : Func} {t u x y z q : Tmp} (h : fn.results = #[.tmp t, .tmp u, .tmp x, .tmp y, .tmp z, .tmp q]) (tmps : Array Value) (P : Program) (w : World) :
    (results fn tmps).run P w = .ok (.tuple #[tmps.getD t undef, tmps.getD u undef, tmps.getD x undef, tmps.getD y undef, tmps.getD z undef, tmps.getD q undef]) w := by
  simp only [results, h]
  simp
theorem bodyQ.r4 {fn : Func} {R : Value → World → Prop} {t u x y : Nat} {v1 v2 v3 v4 : Value} (h : fn.results = #[.tmp t, .tmp u, .tmp x, .tmp y]) (h1 : env t = v1) (h2 : env u = v2) (h3 : env x = v3) (h4 : env y = v4) (hR : R (.tuple #[v1, v2, v3, v4]) w) : bodyQ P fn R .ret env w :=
  ⟨_, fun tmps hg => by rw [results_tmp4 h tmps P w, hg, hg, hg, hg, h1, h2, h3, h4], hR⟩
theorem bodyQ.r6 {fn : Func} {R : Value → World → Prop} {t u x y z q : Nat} {v1 v2 v3 v4 v5 v6 : Value} (h : fn.results = #[.tmp t, .tmp u, .tmp x, .tmp y, .tmp z, .tmp q]) (h1 : env t = v1) (h2 : env u = v2) (h3 : env x = v3) (h4 : env y = v4) (h5 : env z = v5) (h6 : env q = v6) (hR : R (.tuple #[v1, v2, v3, v4, v5, v6]) w) : bodyQ P fn R .ret env w :=
  ⟨_, fun tmps hg => by rw [results_tmp6 h tmps P w, hg, hg, hg, hg, hg, hg, h1, h2, h3, h4, h5, h6], hR⟩
end
section
variable {P : Program} {w : World} {ρ : Operand → Value} {d : Option Nat} {ty : TypeId} {pos : String} {af : Array Edge} {g : Option (Nat × Bool)}
theorem run_quoN {t yt : TypeId} {x y : Operand} {m n : Nat} (hx : ρ x = .int .i64 (m : Int)) (hy : ρ y = .int .i64 (n : Int)) (h2 : m ≤ 9223372036854775807) (h' : 1 ≤ n) : (execOp ρ ⟨d, .binOp .quo t x y yt, ty, pos, af, g⟩).run P w = .ok (.value (.int .i64 ((m / n : Nat) : Int))) w := by
  rw [run_quo hx hy (by omega) (by omega) (by omega)]
  rw [Int.natCast_ediv]
theorem run_remN {t yt : TypeId} {x y : Operand} {m n : Nat} (hx : ρ x = .int .i64 (m : Int)) (hy : ρ y = .int .i64 (n : Int)) (h' : 1 ≤ n) : (execOp ρ ⟨d, .binOp .rem t x y yt, ty, pos, af, g⟩).run P w = .ok (.value (.int .i64 ((m % n : Nat) : Int))) w := by
  rw [run_rem hx hy (by omega) (by omega)]
  rw [Int.natCast_emod]
theorem run_maxN {tys : Array TypeId} {x y : Operand} {m n r : Nat} (hx : ρ x = .int .i64 (m : Int)) (hy : ρ y = .int .i64 (n : Int)) (hr : max m n = r) : (execOp ρ ⟨d, .call { callee := .builtin .max, args := #[x, y], argTypes := tys }, ty, pos, af, g⟩).run P w = .ok (.value (.int .i64 (r : Int))) w := by
  rw [run_maxI hx hy, show max (m : Int) (n : Int) = (r : Int) by omega]
theorem run_minN {tys : Array TypeId} {x y : Operand} {m n r : Nat} (hx : ρ x = .int .i64 (m : Int)) (hy : ρ y = .int .i64 (n : Int)) (hr : min m n = r) : (execOp ρ ⟨d, .call { callee := .builtin .min, args := #[x, y], argTypes := tys }, ty, pos, af, g⟩).run P w = .ok (.value (.int .i64 (r : Int))) w := by
  rw [run_minI hx hy, show min (m : Int) (n : Int) = (r : Int) by omega]
end
section
variable {P : Program} {w : World} {d : Option Nat} {ty : TypeId} {pos : String} {af : Array Edge} {g : Option (Nat × Bool)}
/-- A function value with one variable of its own, and two arguments. -/
theorem eff_call2C {env : Env} {x x1 x2 : Operand} {f : FuncId} {cap v1 v2 : Value} {tys : Array TypeId} {R : Value → World → Prop} (hx : evo env x = .func (.func f) #[] #[cap]) (hf : ∀ args w, (callFunc f args).run P w = .ok (.enter f args) w)
    (h1 : evo env x1 = v1) (h2 : evo env x2 = v2) (hc : Calls P f #[v1, v2, cap] w (Ret R)) : Eff P (evo env) ⟨d, .call { callee := .value x, args := #[x1, x2], argTypes := tys }, ty, pos, af, g⟩ w R := by
  subst h1; subst h2
  exact eff_callV (xs := [x1, x2]) hx hf hc
theorem eff_call1C {env : Env} {x x1 : Operand} {f : FuncId} {cap v1 : Value} {tys : Array TypeId} {R : Value → World → Prop} (hx : evo env x = .func (.func f) #[] #[cap]) (hf : ∀ args w, (callFunc f args).run P w = .ok (.enter f args) w)
    (h1 : evo env x1 = v1) (hc : Calls P f #[v1, cap] w (Ret R)) : Eff P (evo env) ⟨d, .call { callee := .value x, args := #[x1], argTypes := tys }, ty, pos, af, g⟩ w R := by
  subst h1
  exact eff_callV (xs := [x1]) hx hf hc
end
end Go.Sl
/-
  What slices.Insert is made of: a part of an owned slice copied into; a slice made longer by noughts; a slice within its capacity; slices that do not overlap.
-/
namespace Go.Sl
open Go
set_option linter.unusedVariables false
set_option linter.unusedSimpArgs false
section
variable {P : Program} {W0 w : World} {L : List HProp} {ρ : Operand → Value} {d : Option Nat} {ty : TypeId} {pos : String} {af : Array Edge} {g : Option (Nat × Bool)}
/-- copy into a part of a slice that is owned, elements of any size. -/
theorem eff_copyPart {t e size lo m n c c' k cy : Nat} {b o : Nat} {ay : Option Addr} {xs ys : List Value} {sx sy : Operand} {tys : Array TypeId} (H : On W0 (Own size (.slice (some ⟨b, o, none⟩) n c) n xs :: L) w) (hs : ρ sx = .slice (some ⟨b, o + lo * size, none⟩) m c') (hy : ρ sy = .slice ay k cy) (C : Cells size (.slice ay k cy) k ys (hp w))
    (ht : tys[0]? = some t) (hU : P.underlying t = some (.slice e)) (hS : ∀ w, (sizeOf e).run P w = .ok size w) (hlo : lo + m ≤ n) (h1c : ∀ u ∈ ys.take (min k m * size), u.oneCell' = true) :
    Eff P ρ ⟨d, .call { callee := .builtin .copy, args := #[sx, sy], argTypes := tys }, ty, pos, af, g⟩ w (fun v w' => v = .int .i64 ((min k m : Nat) : Int) ∧ On W0 (Own size (.slice (some ⟨b, o, none⟩) n c) n (splice xs (lo * size) (ys.take (min k m * size))) :: L) w') := by
  have hml := maxLen_eq
  obtain ⟨hxl, hO⟩ := Own.openOn H
  have hyl : ys.length = k * size := C.1
  have hf := run_firstCells_C (P := P) (C.front (k := min k m) (Nat.min_le_left _ _))
  rw [firstCells_len (k' := k) (c' := cy)] at hf
  have hly := lenOf_C (P := P) (w := w) C
  have hmk : min k m ≤ m := Nat.min_le_right _ _
  have hmks : min k m * size ≤ m * size := Nat.mul_le_mul_right _ hmk
  have hmkk : min k m * size ≤ k * size := Nat.mul_le_mul_right _ (Nat.min_le_left _ _)
  have hlon : lo * size + m * size ≤ n * size := by rw [← Nat.add_mul]; exact Nat.mul_le_mul_right _ hlo
  have hlt : (ys.take (min k m * size)).length = min k m * size := by rw [List.length_take, hyl]; omega
  rcases hO with ⟨rfl, ao, hv'⟩ | ⟨gb, off, cap, cur, e', fr, hv', hnc, hcm, hfit, htake, hfree, Hb⟩
  · obtain rfl : m = 0 := by omega
    obtain rfl : lo = 0 := by omega
    have hx0 : xs = [] := List.eq_nil_of_length_eq_zero (by rw [hxl]; simp)
    subst hx0
    simp only [Nat.min_zero, Nat.zero_mul, List.take_zero] at hf ⊢
    refine .inl ⟨.int .i64 0, w, ?_, rfl, by simpa [splice] using H⟩
    simp [execOp, resolve, invoke, builtin, hs, hy, Builtin.copy_, ht, run_underlying hU, hS, hly, hf, storeCells, goInt]
  · simp only [Value.slice.injEq, Option.some.injEq, Addr.mk.injEq] at hv'
    obtain ⟨⟨rfl, rfl, _⟩, _, rfl⟩ := hv'
    have hncs : n * size ≤ c * size := Nat.mul_le_mul_right _ hnc
    obtain ⟨w', hst, hO'⟩ := Hb.storeCells (P := P) 0 rfl (o + lo * size) (ys.take (min k m * size)) (by rw [hlt]; omega) h1c (fun q h1 h2 => free_ok hfree (by rw [hlt] at h2; omega))
    refine .inl ⟨.int .i64 ((min k m : Nat) : Int), w', ?_, rfl, ?_⟩
    · have hg : goInt (Nat.min k m) = .int .i64 ((min k m : Nat) : Int) := rfl
      simp [execOp, resolve, invoke, builtin, hs, hy, Builtin.copy_, ht, run_underlying hU, hS, hly, hf, hst, goInt]
    · refine Own.closeOn (e := e') (fr := fr) hO' ?_ hnc hcm (by rw [splice_length (by rw [hlt]; omega)]; exact hfit) ?_ (by rw [splice_length (by rw [hlt]; omega)]; exact hfree)
      · rw [splice_length (by rw [hlt]; omega)]; exact hxl
      · rw [drop_splice_take (by rw [hlt]; omega) (by omega), htake]
/-- A slice that is owned, longer, within its capacity: what is behind it, nobody knows. -/
theorem Own.longer {size n c k : Nat} {b o : Nat} {xs : List Value} (H : On W0 (Own size (.slice (some ⟨b, o, none⟩) n c) n xs :: L) w) (hk : n + k ≤ c) (hn : 0 < n) :
    ∃ zs, zs.length = k * size ∧ On W0 (Own size (.slice (some ⟨b, o, none⟩) (n + k) c) (n + k) (xs ++ zs) :: L) w := by
  obtain ⟨hxl, hO⟩ := Own.openOn H
  rcases hO with ⟨h0, _⟩ | ⟨gb, off, cap, cur, e', fr, hv', hnc, hcm, hfit, htake, hfree, Hb⟩
  · omega
  · simp only [Value.slice.injEq, Option.some.injEq, Addr.mk.injEq] at hv'
    obtain ⟨⟨rfl, rfl, _⟩, _, rfl⟩ := hv'
    have hle : (n + k) * size ≤ c * size := Nat.mul_le_mul_right _ hk
    have e1 : (n + k) * size = n * size + k * size := Nat.add_mul ..
    have e2 : (cur.drop o).take ((n + k) * size) = xs ++ (cur.drop (o + n * size)).take (k * size) := by
      rw [e1, List.take_add, htake, List.drop_drop]
    have hzl : ((cur.drop (o + n * size)).take (k * size)).length = k * size := by rw [List.length_take, List.length_drop]; omega
    exact ⟨_, hzl, Own.closeOn Hb (by rw [List.length_append, hxl, hzl, e1]) hk hcm hfit e2 hfree⟩
/-- append(s, make(..)...) where there is no room: a new row; the elder one stays. -/
theorem eff_appZeros {t tn e size i k bytes cap : Nat} {kn kx : IntKind} {ao : Option Addr} {z : Value} {xs : List Value} {ti : TypeInfo} {sx sk : Operand} (H : On W0 L w) (C : Cells size (.slice ao i cap) i xs (hp w)) (hs : ρ sx = .slice ao i cap) (hk : ρ sk = .int kx (k : Int)) (hk0 : 0 < k) (hcap : cap < i + k)
    (hU : P.underlying t = some (.slice e)) (hN : P.underlying tn = some (.int kn)) (hI : P.info? e = some ti) (hsz : ti.size = size) (hs0 : 0 < size) (hby : ti.bytes = bytes) (hz : ti.zero = some z) (hzs : z.cells.size = size)
    (h63 : i + k ≤ maxLen) (hb : (i + k) * bytes ≤ 140737488355328) :
    Eff P ρ ⟨d, .call { callee := .builtin .append, args := #[sx, sk], argTypes := #[t, tn] }, ty, pos, af, g⟩ w (fun v w' => ∃ b c, v = .slice (some ⟨b, 0, none⟩) (i + k) c ∧ On W0 (Own size (.slice (some ⟨b, 0, none⟩) (i + k) c) (i + k) (xs ++ (Builtin.zeroCells z.cells k).toList) :: L) w') := by
  subst hsz
  subst hby
  have hml := maxLen_eq
  have hxlen : xs.length = i * ti.size := C.1
  have hne : ¬ (i + k ≤ cap) := by omega
  have h63' : ¬ (9223372036854775807 < ((i : Int) + (k : Int))) := by omega
  have h48' : ¬ (281474976710656 < Builtin.nextslicecap (i + k) cap * ti.bytes) := by
    have := growslice_fits (old := cap) (by omega) hb; omega
  have hkb : k * ti.bytes ≤ (i + k) * ti.bytes := Nat.mul_le_mul_right _ (by omega)
  have h48i : ¬ (281474976710656 < (k : Int) * (ti.bytes : Int)) := by
    rw [← Int.natCast_mul]; omega
  have hw : IntKind.i64.wrap (k : Int) = k := by rw [IntKind.wrap_i64]; omega
  have hks : ¬ (k = 0 ∨ ti.size = 0) := by omega
  have Cxd : Cells ti.size (.slice ao i cap) i xs (hp w.drew) := C
  have hfx := run_firstCells_C (P := P) Cxd
  have hlt0 : ¬ ((k : Int) < 0) := by omega
  refine .inl ⟨.slice (some ⟨w.heap.size, 0, none⟩) (i + k) (grownCap w (i + k) cap e), w.drew.alloc (.cells (xs.toArray ++ Builtin.zeroCells z.cells k ++ Builtin.zeroCells z.cells (grownCap w (i + k) cap e - (i + k))) e), ?_, ?_⟩
  · have hr : (Builtin.append_ #[t, tn] ty #[.slice ao i cap, .int kx k]).run P w = .ok (.slice (some ⟨w.heap.size, 0, none⟩) (i + k) (grownCap w (i + k) cap e)) (w.drew.alloc (.cells (xs.toArray ++ Builtin.zeroCells z.cells k ++ Builtin.zeroCells z.cells (grownCap w (i + k) cap e - (i + k))) e)) := by
      simp [Builtin.append_, run_underlying hU, run_underlying hN, sizeOf, typeInfo, zeroValue, hI, hz, hne, h63', h48', h48i, hw, hks, hlt0, Question.forced, hfx, newRow, grownCap, asInt, asIntOf]
      intro h0
      have := Nat.mul_pos hk0 hs0
      omega
    simp [execOp, resolve, invoke, builtin, hs, hk, hr]
  · refine ⟨_, _, rfl, ?_⟩
    have hge := grownCap_ge w (i + k) cap e
    have hcm : grownCap w (i + k) cap e ≤ maxLen := grownCap_le_maxLen w (i + k) cap e h63
    have hA := (H.drew).alloc (.cells (xs.toArray ++ Builtin.zeroCells z.cells k ++ Builtin.zeroCells z.cells (grownCap w (i + k) cap e - (i + k))) e)
    have hzl : (Builtin.zeroCells z.cells k).toList.length = k * ti.size := by simp [size_zeroCells, hzs]
    refine hA.head fun h hh => ⟨by rw [List.length_append, hxlen, hzl, Nat.add_mul], .inr ⟨w.heap.size, 0, grownCap w (i + k) cap e, xs ++ (Builtin.zeroCells z.cells k).toList ++ (Builtin.zeroCells z.cells (grownCap w (i + k) cap e - (i + k))).toList, e, (0, 0), rfl, hge, hcm, ?_, ?_, ?_, ?_⟩⟩
    · simp only [List.length_append, hxlen, hzl, Array.length_toList, size_zeroCells, hzs, ← Nat.add_mul]
      rw [Nat.zero_add]
      apply Nat.le_of_eq; congr 1; omega
    · rw [List.drop_zero]
      have : (i + k) * ti.size = (xs ++ (Builtin.zeroCells z.cells k).toList).length := by rw [List.length_append, hxlen, hzl, Nat.add_mul]
      rw [this]
      exact List.take_left
    · exact .inl rfl
    · have hh' : h w.drew.heap.size = _ := hh
      rw [show w.drew.heap.size = w.heap.size from rfl] at hh'
      rw [hh']
      simp [obj]
/-- slices.overlaps of a slice in a block of its own and one that is owned: they do not. -/
theorem eff_overlaps {env : Env} {f : FuncId} {fn : Func} {x y : Operand} {tS tR e size n c k cx m cy bx o off : Nat} {b : Nat} {l xs : List Value} {te : Nat} {tys : Array TypeId} (H : On W0 (Own size (.slice (some ⟨b, o, none⟩) n c) n xs :: L) w) (hB : HasBlk L bx l te (0, 0)) (hn : 0 < n) (hs0 : 0 < size)
    (hf : P.funcs[f]? = some fn) (hname : (fn.name == "runtime.NumGoroutine") = false) (hb : fn.body.isNone = true) (hn' : Extern.findNext fn = none) (he : Extern.find fn = some (Extern.SlicesOverlaps.overlaps #[tS, tS] #[tR]))
    (hU : P.underlying tS = some (.slice e)) (hS : ∀ w, (sizeOf e).run P w = .ok size w) (hx : evo env x = .slice (some ⟨bx, 0, none⟩) m cx) (hy : evo env y = .slice (some ⟨b, off, none⟩) k cy) :
    Eff P (evo env) ⟨d, .call { callee := .value (.func f), args := #[x, y], argTypes := tys }, ty, pos, af, g⟩ w (fun v w' => v = .bool false ∧ On W0 (Own size (.slice (some ⟨b, o, none⟩) n c) n xs :: L) w') := by
  obtain ⟨hxl, hO⟩ := Own.openOn H
  rcases hO with ⟨h0, _⟩ | ⟨gb, off', cap, cur, e', fr, hv', hnc, hcm, hfit, htake, hfree, Hb⟩
  · omega
  · simp only [Value.slice.injEq, Option.some.injEq, Addr.mk.injEq] at hv'
    obtain ⟨⟨rfl, rfl, _⟩, _, rfl⟩ := hv'
    have hbx : w.heap[bx]? = some (obj l te (0, 0)) := H.tail.blkB (i := hB)
    have hbb : w.heap[b]? = some (obj cur e' fr) := Hb.block 0 rfl
    have hne : bx ≠ b := by
      intro hh
      subst hh
      obtain ⟨h1, h2, dd, s1, s2, a, r⟩ := Hb.sat
      exact dd bx _ _ a (hB.out _ r)
    have hcl : cur.length ≠ 0 := by
      have : 0 < n * size := Nat.mul_pos hn hs0
      have : n * size ≤ c * size := Nat.mul_le_mul_right _ hnc
      omega
    refine .inl ⟨.bool false, w, ?_, rfl, H⟩
    have hov := Lib.run_overlaps_apart (P := P) w tS tR e hU size hS ⟨bx, 0, none⟩ ⟨b, off, none⟩ m cx k cy hne te e' l.length cur.length (by simp [World.shape?, hbx]) (by simp [World.shape?, hbb]) hcl (frozen_of hbx (free0 _)) (frozen_of hbx (free0 _))
    have hr := run_callFunc_extern hf hname hb hn' he #[.slice (some ⟨bx, 0, none⟩) m cx, .slice (some ⟨b, off, none⟩) k cy] w
    rw [hov] at hr
    have hfn : evo env (.func f) = .func (.func f) #[] #[] := rfl
    simp only [Result.andThen_ok] at hr
    simp [execOp, resolve, Deferred.ofValue, invoke, hx, hy, hfn, hr]
theorem sliced_add {b o lo hi m size : Nat} (h : m ≠ lo) : sliced (some ⟨b, o, none⟩) lo hi m size = .slice (some ⟨b, o + lo * size, none⟩) (hi - lo) (m - lo) := by
  unfold sliced
  rw [if_neg h]
  simp [Addr.add_mk]
end
end Go.Sl
namespace Go.Sl
open Go
section
variable {P : Program} {w : World} {ρ : Operand → Value} {d : Option Nat} {ty : TypeId} {pos : String} {af : Array Edge} {g : Option (Nat × Bool)}
theorem run_capSlice {t e n c : Nat} {a : Option Addr} {x : Operand} (hU : P.underlying t = some (.slice e)) (h : ρ x = .slice a n c) :
    (execOp ρ ⟨d, .call { callee := .builtin .cap, args := #[x], argTypes := #[t] }, ty, pos, af, g⟩).run P w = .ok (.value (.int .i64 (c : Int))) w := by
  simp [execOp, resolve, invoke, builtin, h, Builtin.cap_, run_underlying hU, goInt]
end
/-- What is inserted where the row is new. -/
theorem ins_grow {xs zs vs : List Value} {p q m : Nat} (hx : xs.length = m) (hp : p ≤ m) (hz : zs.length = m + q - p) (hv : vs.length = q) :
    splice (splice (xs.take p ++ zs) p vs) (p + q) (xs.drop p) = xs.take p ++ vs ++ xs.drop p := by
  have hA : (xs.take p).length = p := by rw [List.length_take, hx]; omega
  have hB : (xs.drop p).length = m - p := by rw [List.length_drop, hx]
  have e1 : splice (xs.take p ++ zs) p vs = xs.take p ++ vs ++ zs.drop q := by
    unfold splice
    rw [List.take_append_of_le_length (by rw [hA]; omega), List.take_of_length_le (by rw [hA]; omega), hv]
    congr 1
    rw [List.drop_append, hA, List.drop_of_length_le (by rw [hA]; omega), List.nil_append]
    congr 1; omega
  rw [e1]
  unfold splice
  have hAV : (xs.take p ++ vs).length = p + q := by rw [List.length_append, hA, hv]
  rw [List.take_append_of_le_length (by rw [hAV]; omega), List.take_of_length_le (by rw [hAV]; omega)]
  rw [List.drop_of_length_le (l := xs.take p ++ vs ++ zs.drop q) (by rw [List.length_append, hAV, List.length_drop, hz, hB]; omega), List.append_nil]
end Go.Sl
/-
  What lies behind a front of an owned slice; zeros as bytes. Nothing of any program is named here.
-/
namespace Go.Sl
open Go
set_option linter.unusedVariables false
theorem sliced_tail (b o l n c size : Nat) : sliced (some ⟨b, o, none⟩) l n c size = .slice (if c = l then some ⟨b, o, none⟩ else some ⟨b, o + l * size, none⟩) (n - l) (c - l) := by
  unfold sliced
  by_cases h : c = l <;> simp [h, Addr.add_mk]
theorem Own.tail {W0 w : World} {L : List HProp} {size n c b o l : Nat} {xs : List Value} (H : On W0 (Own size (.slice (some ⟨b, o, none⟩) n c) n xs :: L) w) (hl : l ≤ n) :
    On W0 (Own size (.slice (if c = l then some ⟨b, o, none⟩ else some ⟨b, o + l * size, none⟩) (n - l) (c - l)) (n - l) (xs.drop (l * size)) :: L) w := H.head fun h ⟨hx, ho⟩ => by
  have hlx : (xs.drop (l * size)).length = (n - l) * size := by rw [List.length_drop, hx, Nat.sub_mul]
  refine ⟨hlx, ?_⟩
  rcases ho with ⟨h0, ao, hv⟩ | ⟨g, off, cap, cur, e, fr, hv, h1, h2, h3, h4, h5, h6⟩
  · simp only [Value.slice.injEq] at hv
    obtain ⟨rfl, rfl, rfl⟩ := hv
    exact .inl ⟨by omega, _, by rw [Nat.zero_sub]⟩
  · simp only [Value.slice.injEq, Option.some.injEq, Addr.mk.injEq] at hv
    obtain ⟨⟨rfl, rfl, _⟩, _, rfl⟩ := hv
    by_cases hc : c = l
    · exact .inl ⟨by omega, _, by rw [show n - l = 0 by omega, show c - l = 0 by omega]⟩
    · rw [if_neg hc]
      have hle : l * size ≤ c * size := Nat.mul_le_mul_right _ (by omega)
      refine .inr ⟨b, o + l * size, c - l, cur, e, fr, rfl, by omega, by omega, ?_, ?_, h5, h6⟩
      · rw [Nat.sub_mul]; omega
      · rw [← h4, List.drop_take, List.drop_drop, Nat.sub_mul]
theorem zerosB (n : Nat) : bytesV (List.replicate n 0) = List.replicate n (.int .u8 0) := by
  unfold bytesV
  rw [List.map_replicate]
  rfl
theorem bytes_set (bs : List UInt8) (i : Nat) (x : UInt8) : (bytesV bs).set i (.int .u8 (x.toNat : Int)) = bytesV (bs.set i x) := by
  unfold bytesV
  rw [List.map_set]
section
variable {P : Program} {w : World} {ρ : Operand → Value} {d : Option Nat} {ty : TypeId} {pos : String} {af : Array Edge} {g : Option (Nat × Bool)}
theorem run_remNV {t yt : TypeId} {x y : Operand} {m n r : Nat} (hx : ρ x = .int .i64 (m : Int)) (hy : ρ y = .int .i64 (n : Int)) (h' : 1 ≤ n) (hr : m % n = r) : (execOp ρ ⟨d, .binOp .rem t x y yt, ty, pos, af, g⟩).run P w = .ok (.value (.int .i64 (r : Int))) w := by
  rw [run_rem hx hy (by omega) (by omega), ← hr]
  rfl
end
end Go.Sl
