/-
  Rows that are made, written to and copied into; numbers by their bits; arrays; functions as values.
-/
import Derived.Test.YtlahgihjjabgmaaSlBits
import Derived.Laws.MakeOwn
import Derived.Laws.Small
namespace Go.Sl
open Go
set_option linter.unusedVariables false
section
variable {P : Program} {W0 w : World} {L : List HProp} {ρ : Operand → Value} {d : Option Nat} {ty : TypeId} {pos : String} {af : Array Edge} {g : Option (Nat × Bool)}

theorem madeOne (z : Value) (n : Nat) : (madeCells #[z] n).toList = List.replicate n z := by
  apply List.ext_getElem
  · simp [madeCells]
  · intro i h1 h2; simp [madeCells, Nat.mod_one]
/-- make, elements of one cell. -/
theorem eff_make {t e n bytes : Nat} {kl kc : IntKind} {x y : Operand} {z : Value} {i : TypeInfo} (H : On W0 L w) (hx : ρ x = .int kl (n : Int)) (hy : ρ y = .int kc (n : Int))
    (hU : P.underlying t = some (.slice e)) (hI : P.info? e = some i) (hsz : i.size = 1) (hby : i.bytes = bytes) (hz : i.zero = some z) (hzc : z.cells = #[z]) (hb : bytes * n ≤ 281474976710656) (hm : n ≤ maxLen) :
    Eff P ρ ⟨d, .makeSlice t x y, ty, pos, af, g⟩ w (fun v w' => ∃ b, v = .slice (some ⟨b, 0, none⟩) n n ∧ On W0 (Own 1 (.slice (some ⟨b, 0, none⟩) n n) n (List.replicate n z) :: L) w') := by
  have hml := maxLen_eq
  have hb' : (i.bytes : Int) * (n : Int) ≤ 281474976710656 := by
    have : ((i.bytes * n : Nat) : Int) ≤ 281474976710656 := by rw [hby]; omega
    rwa [Int.natCast_mul] at this
  have hr := run_make (P := P) w t e i z hU hI hz kl kc n n (by omega) (Int.le_refl _) hb' (by omega)
  simp only [Int.toNat_natCast, hsz, Nat.mul_one, hzc] at hr
  refine .inl ⟨_, _, by simp only [execOp, hx, hy, Sem.run_bind, hr, Result.andThen_ok, Sem.run_pure]; rfl, w.heap.size, rfl, ?_⟩
  have hO := H.alloc (.cells (madeCells #[z] n) e)
  have hO' : On W0 (blk w.heap.size (List.replicate n z) e :: L) (w.alloc (.cells (madeCells #[z] n) e)) := by
    rw [← madeOne]; exact hO
  exact Own.ofBlk hO' (by simp) hm
/-- A cell of a slice that is owned, written. -/
theorem eff_storeOwn {t b o k size n c : Nat} {x y : Operand} {v : Value} {xs : List Value} (H : On W0 (Own size (.slice (some ⟨b, o, none⟩) n c) n xs :: L) w) (hS : ∀ w, (sizeOf t).run P w = .ok 1 w) (h : ρ x = .pointer (some ⟨b, o + k, none⟩)) (hy : ρ y = v) (hv : v.oneCell' = true)
    (hk : k < n * size) : Eff P ρ ⟨d, .store t x y, ty, pos, af, g⟩ w (fun _ w' => On W0 (Own size (.slice (some ⟨b, o, none⟩) n c) n (xs.set k v) :: L) w') := by
  obtain ⟨hxl, hO⟩ := Own.openOn H
  rcases hO with ⟨rfl, ao, hv'⟩ | ⟨gb, off, cap, cur, e, fr, hv', hnc, hcm, hfit, htake, hfree, Hb⟩
  · omega
  · simp only [Value.slice.injEq, Option.some.injEq, Addr.mk.injEq] at hv'
    obtain ⟨⟨rfl, rfl, _⟩, _, rfl⟩ := hv'
    have hnc' : n * size ≤ c * size := Nat.mul_le_mul_right _ hnc
    have hf := free_ok hfree (k := o + k) (by omega)
    have h1 := run_storeOne (P := P) (ρ := ρ) (d := d) (ty := ty) (pos := pos) (af := af) (g := g) hS h hy hv (Hb.block 0 rfl) (by rw [Nat.ble_eq]; omega) hf
    refine .inr (.inl ⟨_, h1, ?_⟩)
    have hO' := Hb.setCellL 0 rfl (o + k) v
    refine Own.closeOn (e := e) (fr := fr) hO' (by rw [List.length_set]; exact hxl) hnc hcm (by rw [List.length_set]; exact hfit) ?_ (by rw [List.length_set]; exact hfree)
    rw [List.drop_set, if_neg (by omega), show o + k - o = k by omega, List.take_set, htake]
theorem run_xorN {t yt : TypeId} {x y : Operand} {k : IntKind} {m n : Nat} (hx : ρ x = .int k (m : Int)) (hy : ρ y = .int k (n : Int)) (hm : (m : Int) ≤ k.max) (hn : (n : Int) ≤ k.max) (hr : ((m ^^^ n : Nat) : Int) ≤ k.max) :
    (execOp ρ ⟨d, .binOp .xor t x y yt, ty, pos, af, g⟩).run P w = .ok (.value (.int k ((m ^^^ n : Nat) : Int))) w := by
  rw [run_xor hx hy, BitVec.toNat_xor, ofInt_nat _ _ (bits_top _ _ hm), ofInt_nat _ _ (bits_top _ _ hn)]
  have h0 : k.min ≤ 0 := by cases k <;> decide
  rw [wrap_in _ (by omega) hr]
theorem run_orN {t yt : TypeId} {x y : Operand} {k : IntKind} {m n : Nat} (hx : ρ x = .int k (m : Int)) (hy : ρ y = .int k (n : Int)) (hm : (m : Int) ≤ k.max) (hn : (n : Int) ≤ k.max) (hr : ((m ||| n : Nat) : Int) ≤ k.max) :
    (execOp ρ ⟨d, .binOp .or t x y yt, ty, pos, af, g⟩).run P w = .ok (.value (.int k ((m ||| n : Nat) : Int))) w := by
  rw [run_or hx hy, BitVec.toNat_or, ofInt_nat _ _ (bits_top _ _ hm), ofInt_nat _ _ (bits_top _ _ hn)]
  have h0 : k.min ≤ 0 := by cases k <;> decide
  rw [wrap_in _ (by omega) hr]
theorem run_shlN {t yt : TypeId} {x y : Operand} {k ky : IntKind} {m j : Nat} (hx : ρ x = .int k (m : Int)) (hy : ρ y = .int ky (j : Int)) (hj : j ≤ k.bits) (hr : ((m * 2 ^ j : Nat) : Int) ≤ k.max) :
    (execOp ρ ⟨d, .binOp .shl t x y yt, ty, pos, af, g⟩).run P w = .ok (.value (.int k ((m * 2 ^ j : Nat) : Int))) w := by
  rw [run_shl hx hy (by omega), Int.toNat_natCast, Nat.min_eq_left hj]
  have h0 : k.min ≤ 0 := by cases k <;> decide
  have e : (m : Int) * 2 ^ j = ((m * 2 ^ j : Nat) : Int) := by rw [Int.natCast_mul, Int.natCast_pow]; rfl
  rw [e, wrap_in _ (by omega) hr]
theorem run_subK {t yt : TypeId} {x y : Operand} {k : IntKind} {m n : Nat} (hx : ρ x = .int k (m : Int)) (hy : ρ y = .int k (n : Int)) (h : n ≤ m) (hm : (m : Int) ≤ k.max) :
    (execOp ρ ⟨d, .binOp .sub t x y yt, ty, pos, af, g⟩).run P w = .ok (.value (.int k ((m - n : Nat) : Int))) w := by
  have h0 : k.min ≤ 0 := by cases k <;> decide
  rw [run_subW hx hy, ← Int.natCast_sub h, wrap_in _ (by omega) (by omega)]
theorem run_addK {t yt : TypeId} {x y : Operand} {k : IntKind} {m n : Nat} (hx : ρ x = .int k (m : Int)) (hy : ρ y = .int k (n : Int)) (hm : ((m + n : Nat) : Int) ≤ k.max) :
    (execOp ρ ⟨d, .binOp .add t x y yt, ty, pos, af, g⟩).run P w = .ok (.value (.int k ((m + n : Nat) : Int))) w := by
  have h0 : k.min ≤ 0 := by cases k <;> decide
  rw [run_addW hx hy, ← Int.natCast_add, wrap_in _ (by omega) (by omega)]
theorem run_minI {tys : Array TypeId} {x y : Operand} {k : IntKind} {a b : Int} (hx : ρ x = .int k a) (hy : ρ y = .int k b) :
    (execOp ρ ⟨d, .call { callee := .builtin .min, args := #[x, y], argTypes := tys }, ty, pos, af, g⟩).run P w = .ok (.value (.int k (min a b))) w := by
  simp [execOp, resolve, invoke, builtin, hx, hy, run_min_int2]
  split <;> omega
theorem run_maxI {tys : Array TypeId} {x y : Operand} {k : IntKind} {a b : Int} (hx : ρ x = .int k a) (hy : ρ y = .int k b) :
    (execOp ρ ⟨d, .call { callee := .builtin .max, args := #[x, y], argTypes := tys }, ty, pos, af, g⟩).run P w = .ok (.value (.int k (max a b))) w := by
  simp [execOp, resolve, invoke, builtin, hx, hy, run_max_int2]
  split <;> omega
theorem eff_callV {env : Env} {x : Operand} {f : FuncId} {first captured : Array Value} {xs : List Operand} {tys : Array TypeId} {R : Value → World → Prop} (hx : evo env x = .func (.func f) first captured) (hf : ∀ args w, (callFunc f args).run P w = .ok (.enter f args) w)
    (hc : Calls P f (first ++ (xs.map (evo env)).toArray ++ captured) w (Ret R)) : Eff P (evo env) ⟨d, .call { callee := .value x, args := xs.toArray, argTypes := tys }, ty, pos, af, g⟩ w R :=
  .inr (.inr ⟨f, _, w, run_callV hx hf, hc⟩)
theorem firstCells_len {size q k k' c c' : Nat} {a : Option Addr} : Builtin.firstCells size q (.slice a k c) = Builtin.firstCells size q (.slice a k' c') := by cases a <;> rfl
theorem drop_splice_take {cur ys : List Value} {off lo n : Nat} (h : lo + ys.length ≤ n) (h2 : off + n ≤ cur.length) : ((splice cur (off + lo) ys).drop off).take n = splice ((cur.drop off).take n) lo ys := by
  apply List.ext_getElem?
  intro j
  unfold splice
  simp only [List.getElem?_take, List.getElem?_drop, List.getElem?_append, List.length_take, List.length_append, List.length_drop]
  by_cases hj : j < n
  · rw [if_pos hj]
    by_cases h1 : j < lo
    · rw [if_pos (by omega), if_pos (by omega), if_pos (by omega), if_pos (by omega), if_pos (by omega), if_pos hj, if_pos h1]
    · by_cases h3 : j < lo + ys.length
      · rw [if_pos (by omega), if_neg (by omega), if_pos (by omega), if_neg (by omega)]
        congr 1; omega
      · rw [if_neg (by omega), if_neg (by omega), if_pos (by omega)]
        congr 1; omega
  · rw [if_neg hj, if_neg (by omega), if_neg (by omega)]
/-- copy into a part of a slice that is owned. -/
theorem eff_copyIn {t e lo m n c c' k cy : Nat} {b o : Nat} {ay : Option Addr} {xs ys : List Value} {sx sy : Operand} {tys : Array TypeId} (H : On W0 (Own 1 (.slice (some ⟨b, o, none⟩) n c) n xs :: L) w) (hs : ρ sx = .slice (some ⟨b, o + lo, none⟩) m c') (hy : ρ sy = .slice ay k cy) (C : Cells 1 (.slice ay k cy) k ys (hp w))
    (ht : tys[0]? = some t) (hU : P.underlying t = some (.slice e)) (hS : ∀ w, (sizeOf e).run P w = .ok 1 w) (hlo : lo + m ≤ n) (h1c : ∀ u ∈ ys, u.oneCell' = true) :
    Eff P ρ ⟨d, .call { callee := .builtin .copy, args := #[sx, sy], argTypes := tys }, ty, pos, af, g⟩ w (fun v w' => v = .int .i64 ((min k m : Nat) : Int) ∧ On W0 (Own 1 (.slice (some ⟨b, o, none⟩) n c) n (splice xs lo (ys.take (min k m))) :: L) w') := by
  have hml := maxLen_eq
  obtain ⟨hxl, hO⟩ := Own.openOn H
  rw [Nat.mul_one] at hxl
  have hyl : ys.length = k := by have := C.1; rw [Nat.mul_one] at this; exact this
  have hf := run_firstCells_C (P := P) (C.front (k := min k m) (Nat.min_le_left _ _))
  rw [Nat.mul_one, firstCells_len (k' := k) (c' := cy)] at hf
  have hly := lenOf_C (P := P) (w := w) C
  rcases hO with ⟨rfl, ao, hv'⟩ | ⟨gb, off, cap, cur, e', fr, hv', hnc, hcm, hfit, htake, hfree, Hb⟩
  · obtain rfl : m = 0 := by omega
    obtain rfl : lo = 0 := by omega
    have hx0 : xs = [] := List.eq_nil_of_length_eq_zero hxl
    subst hx0
    simp only [Nat.min_zero, List.take_zero] at hf ⊢
    refine .inl ⟨.int .i64 0, w, ?_, rfl, by simpa [splice] using H⟩
    simp [execOp, resolve, invoke, builtin, hs, hy, Builtin.copy_, ht, run_underlying hU, hS, hly, hf, storeCells, goInt]
  · simp only [Value.slice.injEq, Option.some.injEq, Addr.mk.injEq] at hv'
    obtain ⟨⟨rfl, rfl, _⟩, _, rfl⟩ := hv'
    rw [Nat.mul_one] at hfit htake
    have hlt : (ys.take (min k m)).length = min k m := by rw [List.length_take, hyl]; omega
    have hmk : min k m ≤ m := Nat.min_le_right _ _
    obtain ⟨w', hst, hO'⟩ := Hb.storeCells (P := P) 0 rfl (o + lo) (ys.take (min k m)) (by omega) (fun u hu => h1c u (List.mem_of_mem_take hu)) (fun q h1 h2 => free_ok hfree (by omega))
    have hkm : k ≤ maxLen := by obtain ⟨_, _, cap, hv, h1, h2, _⟩ := C; simp only [Value.slice.injEq] at hv; omega
    refine .inl ⟨.int .i64 ((min k m : Nat) : Int), w', ?_, rfl, ?_⟩
    · have hg : goInt (Nat.min k m) = .int .i64 ((min k m : Nat) : Int) := rfl
      simp [execOp, resolve, invoke, builtin, hs, hy, Builtin.copy_, ht, run_underlying hU, hS, hly, hf, hst, goInt]
    · refine Own.closeOn (e := e') (fr := fr) hO' ?_ hnc hcm (by rw [splice_length (by omega), Nat.mul_one]; exact hfit) ?_ (by rw [splice_length (by omega)]; exact hfree)
      · rw [splice_length (by omega), Nat.mul_one]; exact hxl
      · rw [Nat.mul_one, drop_splice_take (by omega) (by omega), htake]
theorem fill_row {n size : Nat} {pl : List (Nat × Nat)} (hpl : pl = (List.range n).map fun i => (i * size, size)) : ∀ (vs : List (Nat × Value)) (zl : List Value), (∀ p ∈ vs, p.1 < n) → fits pl zl.length vs → Instr.fill (fun i => some (i * size, size)) zl.toArray vs = some (placed pl zl vs).toArray := by
  intro vs
  induction vs with
  | nil => intro zl _ _; rfl
  | cons p ps ih =>
    obtain ⟨i, v⟩ := p
    intro zl hlt h
    obtain ⟨⟨off, size', h1, h2, h3⟩, h4⟩ := h
    have hi : i < n := hlt (i, v) (by simp)
    have hpi : pl[i]? = some (i * size, size) := by rw [hpl]; simp [hi]
    rw [hpi] at h1
    cases h1
    have := fill_placed (fun j => if j = i then some (i * size, size) else none) [] 
    unfold Instr.fill
    have hle : v.cells.toList.length = size := by simpa using h2
    have c : ¬ (v.cells.size ≠ size ∨ i * size + v.cells.size > zl.toArray.size) := by simp [h2]; omega
    simp only [Bool.or_eq_true, decide_eq_true_eq]
    rw [if_neg (by simpa using c)]
    have hf := foldl_splice zl (i * size) v.cells.toList 0 (by simp at hle ⊢; omega)
    have e : (v.cells.zipIdx.foldl (fun cs (x : Value × Nat) => cs.setIfInBounds (i * size + x.2) x.1) zl.toArray) = (splice zl (i * size) v.cells.toList).toArray := by
      rw [← Array.foldl_toList]
      simpa using hf
    rw [e, ih _ (fun q hq => hlt q (List.mem_cons_of_mem _ hq)) (by rw [splice_length (by omega)]; exact h4)]
    simp [placed, hpi]
theorem run_buildA {t e n size : Nat} {ps : List (Nat × Operand)} {z : List Value} {pl : List (Nat × Nat)} {vs : List (Nat × Value)} {out : List Value}
    (hU : P.underlying t = some (.array n e)) (hS : ∀ w, (sizeOf e).run P w = .ok size w) (hZ : ∀ w, (zeroValue t).run P w = .ok (.agg z.toArray) w)
    (hpl : pl = (List.range n).map fun i => (i * size, size)) (hv : ps.map (fun p => (p.1, ρ p.2)) = vs) (hlt : ∀ p ∈ vs, p.1 < n) (hf : fits pl z.length vs) (ho : placed pl z vs = out) :
    (execOp ρ ⟨d, .build t ps.toArray, ty, pos, af, g⟩).run P w = .ok (.value (.agg out.toArray)) w := by
  have h : ∀ w, (Instr.build t (ps.toArray.map fun (i, x) => (i, ρ x))).run P w = .ok (.agg out.toArray) w := by
    intro w
    have hm : (ps.toArray.map fun (x : Nat × Operand) => (x.1, ρ x.2)).toList = vs := by rw [← hv]; simp
    unfold Instr.build
    simp only [Sem.run_bind, hZ, Result.andThen_ok, run_underlying hU, hS, Value.cells]
    have := fill_row hpl vs z hlt hf
    rw [hm, this, ho]
    rfl
  exact run_build h
theorem fits_row {n : Nat} : ∀ (vs : List (Nat × Value)), (∀ p ∈ vs, p.1 < n ∧ p.2.oneCell' = true) → fits ((List.range n).map fun i => (i * 1, 1)) n vs := by
  intro vs
  induction vs with
  | nil => intro _; trivial
  | cons p vs ih =>
    obtain ⟨i, v⟩ := p
    intro h
    obtain ⟨h1, h2⟩ := h (i, v) (by simp)
    exact ⟨⟨i * 1, 1, by simp [h1], by rw [cells_one h2]; rfl, by omega⟩, ih fun p hp => h p (List.mem_cons_of_mem _ hp)⟩
theorem placed_row {n : Nat} : ∀ (vs pre rest : List Value), rest.length = vs.length → pre.length + vs.length = n → (∀ v ∈ vs, v.oneCell' = true) → placed ((List.range n).map fun i => (i * 1, 1)) (pre ++ rest) (List.zip (List.range' pre.length vs.length) vs) = pre ++ vs := by
  intro vs
  induction vs with
  | nil => intro pre rest h _ _; have : rest = [] := List.eq_nil_of_length_eq_zero h; subst this; rfl
  | cons v vs ih =>
    intro pre rest hl hn h1
    obtain ⟨r, rest, rfl⟩ : ∃ r rest', rest = r :: rest' := by cases rest with | nil => simp at hl | cons r rest => exact ⟨r, rest, rfl⟩
    simp only [List.length_cons] at hl hn ⊢
    rw [List.range'_succ, List.zip_cons_cons]
    show placed _ (splice (pre ++ r :: rest) ((((List.range n).map fun i => (i * 1, 1))[pre.length]?.getD (0, 0)).1) v.cells.toList) _ = _
    have e1 : ((List.range n).map fun i => (i * 1, 1))[pre.length]? = some (pre.length, 1) := by
      rw [List.getElem?_map, List.getElem?_range (by omega)]; simp
    rw [e1, cells_one (h1 v (by simp))]
    have e2 : splice (pre ++ r :: rest) pre.length [v] = (pre ++ [v]) ++ rest := by
      unfold splice
      rw [List.take_left, show pre.length + [v].length = (pre ++ [r]).length by simp, show pre ++ r :: rest = (pre ++ [r]) ++ rest by simp, List.drop_left]
    show placed _ (splice (pre ++ r :: rest) pre.length [v]) _ = _
    rw [e2]
    have := ih (pre ++ [v]) rest (by omega) (by simp; omega) (fun u hu => h1 u (List.mem_cons_of_mem _ hu))
    rw [List.length_append] at this
    simpa using this
/-- '[]T{..}' of one-cell elements, all given, in their order. -/
theorem eff_mkRow {t n e : Nat} {ps : List (Nat × Operand)} {z : Value} {out : List Value} (H : On W0 L w) (hU : P.underlying t = some (.slice e)) (hS : ∀ w, (sizeOf e).run P w = .ok 1 w) (hZ : ∀ w, (zeroValue e).run P w = .ok z w) (hz : z.cells = #[z])
    (hn : n ≤ 16777216) (hi : ps.map (·.1) = List.range n) (hv : ps.map (fun p => ρ p.2) = out) (h1 : out.all (·.oneCell') = true) :
    Eff P ρ ⟨d, .buildSlice t n ps.toArray, ty, pos, af, g⟩ w (fun v w' => ∃ b, v = .slice (some ⟨b, 0, none⟩) n n ∧ On W0 (Own 1 (.slice (some ⟨b, 0, none⟩) n n) n out :: L) w') := by
  have hol : out.length = n := by rw [← hv, List.length_map]; have := congrArg List.length hi; simpa using this
  have h1' : ∀ v ∈ out, v.oneCell' = true := by simpa using h1
  have hvs : ps.map (fun p => (p.1, ρ p.2)) = List.zip (List.range n) out := by
    rw [← hi, ← hv, List.zip_map']
  refine eff_mkSlice (zl := List.replicate n z) H hU hS hZ (by omega) ?_ rfl hvs (fun p hp => ?_) ?_ ?_ (by omega) (by have := maxLen_eq; omega)
  · by_cases h0 : n = 0
    · subst h0; simp
    · have : ¬ n * 1 = 0 := by omega
      simp only [this, if_false, hz]
      apply Array.ext
      · simp
      · intro i h1 h2; simp [Nat.mod_one]
  · have := (List.of_mem_zip hp).1; simpa using this
  · rw [List.length_replicate]
    refine fits_row _ fun p hp => ?_
    obtain ⟨a, b⟩ := List.of_mem_zip hp
    exact ⟨by simpa using a, h1' _ b⟩
  · have := placed_row (n := n) out [] (List.replicate n z) (by simp [hol]) (by simp [hol]) h1'
    rw [List.nil_append, List.nil_append, List.length_nil, hol, ← List.range_eq_range'] at this
    exact this
theorem eqIn_int {t : TypeId} {k k' : IntKind} {a b : Int} (hU : P.underlying t = some (.int k')) (m : Nat) : (Op.equalIn (m + 1) t (.int k a) (.int k b)).run P w = .ok (a == b) w := by
  simp [Op.equalIn, run_underlying hU]
theorem run_eqlPair {t e yt : TypeId} {x y : Operand} {k k' : IntKind} {a b c c' : Int} (hU : P.underlying t = some (.array 2 e)) (hE : P.underlying e = some (.int k')) (hS : ∀ w, (sizeOf e).run P w = .ok 1 w) (hA : ∀ w, (isAgg e).run P w = .ok false w) (hG : P.eqGuardType P.depth t = false)
    (hx : ρ x = .agg #[.int k a, .int k b]) (hy : ρ y = .agg #[.int k c, .int k c']) :
    (execOp ρ ⟨d, .binOp .eql t x y yt, ty, pos, af, g⟩).run P w = .ok (.value (.bool (decide (a = c ∧ b = c')))) w := by
  have e1 : ∀ a b : Int, (Op.equalIn 9999 e (.int k a) (.int k b)).run P w = .ok (a == b) w := fun a b => eqIn_int (P := P) (w := w) hE 9998
  have key : (Op.equalIn 10000 t (.agg #[.int k a, .int k b]) (.agg #[.int k c, .int k c'])).run P w = .ok (decide (a = c ∧ b = c')) w := by
    rw [show (10000 : Nat) = 9999 + 1 from rfl]
    unfold Op.equalIn
    by_cases h1 : a = c <;> by_cases h2 : b = c' <;> simp [run_underlying hU, hS, part, hA, e1, h1, h2, Std.Legacy.Range.forIn_eq_forIn_range', List.range']
  simp [execOp, eqGuard, hG, hx, hy, binOp, Op.equal, Op.maxDepth, key]
end
end Go.Sl
