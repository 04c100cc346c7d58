/-
  Cuts of slices, parts of structs, results that lie in memory, tests that part the walk.
-/
import Derived.Test.YtlahgihjjabgmaaSlSlice
namespace Go.Sl
open Go
set_option linter.unusedVariables false

section
variable {P : Program} {W0 w : World} {L : List HProp} {ρ : Operand → Value} {d : Option Nat} {ty : TypeId} {pos : String} {af : Array Edge} {g : Option (Nat × Bool)}

theorem run_notDec {x : Operand} {t : TypeId} {p : Prop} [Decidable p] (h : ρ x = .bool (decide p)) : (execOp ρ ⟨d, .unOp .not t x, ty, pos, af, g⟩).run P w = .ok (.value (.bool (decide (¬ p)))) w := by
  simp [execOp, h, Op.unary]

/-! ### Parts -/
theorem run_field1 {t fi : Nat} {x : Operand} {fs : Array Field} {f : Field} {cs : List Value} {v : Value} (hU : P.underlying t = some (.struct fs)) (hf : fs[fi]? = some f) (hA : ∀ w, (isAgg f.type).run P w = .ok false w)
    (hx : ρ x = .agg cs.toArray) (hv : cs[f.offset]? = some v) : (execOp ρ ⟨d, .field t x fi, ty, pos, af, g⟩).run P w = .ok (.value v) w := by
  simp [execOp, Instr.field, run_underlying hU, hf, hx, asAgg, part, hA, hv]
theorem run_fieldN {t fi n : Nat} {x : Operand} {fs : Array Field} {f : Field} {cs vs : List Value} (hU : P.underlying t = some (.struct fs)) (hf : fs[fi]? = some f) (hA : ∀ w, (isAgg f.type).run P w = .ok true w) (hS : ∀ w, (sizeOf f.type).run P w = .ok n w)
    (hx : ρ x = .agg cs.toArray) (hv : (cs.drop f.offset).take n = vs) : (execOp ρ ⟨d, .field t x fi, ty, pos, af, g⟩).run P w = .ok (.value (.agg vs.toArray)) w := by
  simp [execOp, Instr.field, run_underlying hU, hf, hx, asAgg, part, hA, hS, hv]

/-! ### Cuts -/
theorem run_cutH {t e size n c h : Nat} {kh : IntKind} {x y : Operand} {a : Option Addr} (hU : P.underlying t = some (.slice e)) (hS : ∀ w, (sizeOf e).run P w = .ok size w) (hx : ρ x = .slice a n c) (hy : ρ y = .int kh h) (h1 : h ≤ c) :
    (execOp ρ ⟨d, .slice t x none (some y) none, ty, pos, af, g⟩).run P w = .ok (.value (.slice a h c)) w := by
  have e0 : (if c = 0 then a else Option.map (fun x : Addr => x.add 0) a) = a := by split <;> cases a <;> simp [Addr.add]
  have c1 : (0 : Int) ≤ (h : Int) ∧ (h : Int) ≤ (c : Int) := ⟨by omega, by omega⟩
  simp [execOp, Instr.sliceAt, Instr.slice, run_underlying hU, hx, hy, Instr.sliceBounds, Instr.sliceBound, asIntOf, h1, hS, e0]
theorem run_cutHM {t e size n c h m : Nat} {kh km : IntKind} {x y z : Operand} {a : Option Addr} (hU : P.underlying t = some (.slice e)) (hS : ∀ w, (sizeOf e).run P w = .ok size w) (hx : ρ x = .slice a n c) (hy : ρ y = .int kh h) (hz : ρ z = .int km m) (h1 : h ≤ m) (h2 : m ≤ c) :
    (execOp ρ ⟨d, .slice t x none (some y) (some z), ty, pos, af, g⟩).run P w = .ok (.value (.slice a h m)) w := by
  have e0 : (if m = 0 then a else Option.map (fun x : Addr => x.add 0) a) = a := by split <;> cases a <;> simp [Addr.add]
  simp [execOp, Instr.sliceAt, Instr.slice, run_underlying hU, hx, hy, hz, Instr.sliceBounds, Instr.sliceBound, asIntOf, h1, h2, hS, e0]
theorem run_cutLH {t e size n c l h : Nat} {kl kh : IntKind} {x y z : Operand} {a : Option Addr} (hU : P.underlying t = some (.slice e)) (hS : ∀ w, (sizeOf e).run P w = .ok size w) (hx : ρ x = .slice a n c) (hy : ρ y = .int kl l) (hz : ρ z = .int kh h) (h1 : l ≤ h) (h2 : h ≤ c) :
    (execOp ρ ⟨d, .slice t x (some y) (some z) none, ty, pos, af, g⟩).run P w = .ok (.value (sliced a l h c size)) w := by
  simp [execOp, Instr.sliceAt, Instr.slice, run_underlying hU, hx, hy, hz, Instr.sliceBounds, Instr.sliceBound, asIntOf, h1, h2, hS, sliced]
theorem run_cutL {t e size n c l : Nat} {kl : IntKind} {x y : Operand} {a : Option Addr} (hU : P.underlying t = some (.slice e)) (hS : ∀ w, (sizeOf e).run P w = .ok size w) (hx : ρ x = .slice a n c) (hy : ρ y = .int kl l) (h1 : l ≤ n) :
    (execOp ρ ⟨d, .slice t x (some y) none none, ty, pos, af, g⟩).run P w = .ok (.value (sliced a l n c size)) w := by
  simp [execOp, Instr.sliceAt, Instr.slice, run_underlying hU, hx, hy, Instr.sliceBounds, Instr.sliceBound, asIntOf, h1, hS, sliced]
theorem run_cutLHM {t e size n c l h m : Nat} {kl kh km : IntKind} {x y z u : Operand} {a : Option Addr} (hU : P.underlying t = some (.slice e)) (hS : ∀ w, (sizeOf e).run P w = .ok size w) (hx : ρ x = .slice a n c) (hy : ρ y = .int kl l) (hz : ρ z = .int kh h) (hm : ρ u = .int km m) (h1 : l ≤ h) (h2 : h ≤ m) (h3 : m ≤ c) :
    (execOp ρ ⟨d, .slice t x (some y) (some z) (some u), ty, pos, af, g⟩).run P w = .ok (.value (sliced a l h m size)) w := by
  simp [execOp, Instr.sliceAt, Instr.slice, run_underlying hU, hx, hy, hz, hm, Instr.sliceBounds, Instr.sliceBound, asIntOf, h1, h2, h3, hS, sliced]

/-- What a cut of a slice reads as. -/
theorem Cells.cut {size n : Nat} {a : Option Addr} {c l h m : Nat} {xs : List Value} {hh : Hp} (C : Cells size (.slice a n c) n xs hh) (h1 : l ≤ h) (h2 : h ≤ n) (h3 : h ≤ m) (h4 : m ≤ c) :
    Cells size (sliced a l h m size) (h - l) ((xs.drop (l * size)).take ((h - l) * size)) hh := by
  obtain ⟨hl, ao, cap, hv, hc1, hc2, hc3, hc4⟩ := C
  simp only [Value.slice.injEq] at hv
  obtain ⟨rfl, _, rfl⟩ := hv
  refine ⟨?_, (if m = l then a else a.map (·.add (l * size))), m - l, rfl, by omega, by omega, ?_, ?_⟩
  · rw [List.length_take, List.length_drop, hl]
    have : (h - l) * size ≤ n * size - l * size := by rw [← Nat.sub_mul]; exact Nat.mul_le_mul_right _ (by omega)
    omega
  · intro hn
    split at hn
    · omega
    · cases a with
      | none => have := hc3 rfl; omega
      | some a => cases hn
  · intro hp
    obtain ⟨b, o, rfl, r⟩ := hc4 (by omega)
    have hne : ¬ m = l := by omega
    refine ⟨b, o + l * size, ?_, ?_⟩
    · simp [hne, Addr.add_mk]
    · intro j u hj
      rw [List.getElem?_take] at hj
      split at hj
      · rw [List.getElem?_drop] at hj
        have := r _ _ hj
        rw [← Nat.add_assoc] at this
        exact this
      · cases hj

/-! ### Results that lie in memory -/
theorem bodyQ.rc {N : Nat} {env : Env} {fn : Func} {R : Value → World → Prop} {t rt b n : Nat} {vs : List Value} (h : fn.results = #[.cell t rt]) (hA : ∀ w, (isAgg rt).run P w = .ok true w) (hS : ∀ w, (sizeOf rt).run P w = .ok n w)
    (he : env t = .pointer (some ⟨b, 0, none⟩)) (hl : vs.length = n) (hc : ∀ j u, vs[j]? = some u → w.cell? ⟨b, 0 + j, none⟩ = some u) (hR : R (.agg vs.toArray) w) :
    bodyQ P fn R .ret env w := by
  refine ⟨.agg vs.toArray, fun tmps hg => ?_, hR⟩
  have hp : tmps.getD t undef = .pointer (some ⟨b, 0, none⟩) := by rw [hg, he]
  have hp' : tmps[t]?.getD undef = .pointer (some ⟨b, 0, none⟩) := by simpa using hp
  have := run_loadCells_list (P := P) w ⟨b, 0, none⟩ vs (fun j v hv => by rw [Addr.add_mk]; exact hc j v hv)
  rw [hl] at this
  simp [results, h, hp', asAddr, loadVar, hA, hS, this]
theorem bodyQ.rct {N : Nat} {env : Env} {fn : Func} {R : Value → World → Prop} {t u rt b n : Nat} {vs : List Value} {v2 : Value} (h : fn.results = #[.cell t rt, .tmp u]) (hA : ∀ w, (isAgg rt).run P w = .ok true w) (hS : ∀ w, (sizeOf rt).run P w = .ok n w)
    (he : env t = .pointer (some ⟨b, 0, none⟩)) (hl : vs.length = n) (hc : ∀ j u, vs[j]? = some u → w.cell? ⟨b, 0 + j, none⟩ = some u) (h2 : env u = v2) (hR : R (.tuple #[.agg vs.toArray, v2]) w) :
    bodyQ P fn R .ret env w := by
  refine ⟨.tuple #[.agg vs.toArray, v2], fun tmps hg => ?_, hR⟩
  have hp : tmps.getD t undef = .pointer (some ⟨b, 0, none⟩) := by rw [hg, he]
  have hp' : tmps[t]?.getD undef = .pointer (some ⟨b, 0, none⟩) := by simpa using hp
  have := run_loadCells_list (P := P) w ⟨b, 0, none⟩ vs (fun j v hv => by rw [Addr.add_mk]; exact hc j v hv)
  rw [hl] at this
  rw [results_cell_tmp h, hp]
  simp only [asAddr, Sem.run_pure, Result.andThen_ok]
  simp [loadVar, hA, hS, this, ← h2, ← hg u]
/-- As above, the cells out of a block of the list. -/
theorem bodyQ.rcB {W0 : World} {L : List HProp} {env : Env} {fn : Func} {R : Value → World → Prop} {t rt b n : Nat} {l vs : List Value} {e : Nat} {fr : Nat × Nat} (H : On W0 L w) (h : fn.results = #[.cell t rt]) (hA : ∀ w, (isAgg rt).run P w = .ok true w) (hS : ∀ w, (sizeOf rt).run P w = .ok n w)
    (he : env t = .pointer (some ⟨b, 0, none⟩)) [i : HasBlk L b l e fr] (hv : l = vs) (hl : vs.length = n) (hR : R (.agg vs.toArray) w) : bodyQ P fn R .ret env w :=
  bodyQ.rc (N := 0) h hA hS he hl (fun j u hj => by rw [Nat.zero_add]; exact H.cellB (i := i) (by rw [hv]; exact hj)) hR
theorem bodyQ.rctB {W0 : World} {L : List HProp} {env : Env} {fn : Func} {R : Value → World → Prop} {t u rt b n : Nat} {l vs : List Value} {v2 : Value} {e : Nat} {fr : Nat × Nat} (H : On W0 L w) (h : fn.results = #[.cell t rt, .tmp u]) (hA : ∀ w, (isAgg rt).run P w = .ok true w) (hS : ∀ w, (sizeOf rt).run P w = .ok n w)
    (he : env t = .pointer (some ⟨b, 0, none⟩)) [i : HasBlk L b l e fr] (hv : l = vs) (hl : vs.length = n) (h2 : env u = v2) (hR : R (.tuple #[.agg vs.toArray, v2]) w) : bodyQ P fn R .ret env w :=
  bodyQ.rct (N := 0) h hA hS he hl (fun j u hj => by rw [Nat.zero_add]; exact H.cellB (i := i) (by rw [hv]; exact hj)) h2 hR
end

section
variable {P : Program} {N : Nat} {ops : Array Oper} {K : Env → World → Prop} {env : Env} {w : World} {rest : List Oper} {o : Oper}
/-- A test that parts the walk. -/
theorem WL.dec {p : Prop} [Decidable p] (hr : (execOp (evo env) o).run P w = .ok (.value (.bool (decide p))) w) (hw : Region.wanted o (yieldedE ops env) = true) (hd : inN N o.dst = true)
    (kT : p → WL P N ops K rest (updo env o.dst (.bool true)) w) (kF : ¬ p → WL P N ops K rest (updo env o.dst (.bool false)) w) : WL P N ops K (o :: rest) env w := by
  by_cases h : p
  · exact WL.val (by rw [hr]; simp [h]) hw hd (kT h)
  · exact WL.val (by rw [hr]; simp [h]) hw hd (kF h)
theorem WL.boolB {b : Bool} (hr : (execOp (evo env) o).run P w = .ok (.value (.bool b)) w) (hw : Region.wanted o (yieldedE ops env) = true) (hd : inN N o.dst = true)
    (kT : b = true → WL P N ops K rest (updo env o.dst (.bool true)) w) (kF : b = false → WL P N ops K rest (updo env o.dst (.bool false)) w) : WL P N ops K (o :: rest) env w := by
  cases b
  · exact WL.val hr hw hd (kF rfl)
  · exact WL.val hr hw hd (kT rfl)
variable {T : Owed} {fuel : Nat} {listed : Array Bool}
theorem WT.dec (i : Nat) {oi : Oper} {p : Prop} [Decidable p] (hi : ops[i]? = some oi) (hb : takes ops listed i = true)
    (hv : ∀ w', (execOp (evo env) oi).run P w' = .ok (.value (.bool (decide p))) w') (hw : Region.wanted oi (yieldedE ops env) = true) (hd : inN N oi.dst = true)
    (kT : p → WT P N ops K fuel T (listed.setIfInBounds i true) (updo env oi.dst (.bool true)) w) (kF : ¬ p → WT P N ops K fuel T (listed.setIfInBounds i true) (updo env oi.dst (.bool false)) w) : WT P N ops K (fuel + 1) T listed env w := by
  by_cases h : p
  · exact WT.pure i hi hb (fun w' => by rw [hv w']; simp [h]) hw hd (kT h)
  · exact WT.pure i hi hb (fun w' => by rw [hv w']; simp [h]) hw hd (kF h)
end
end Go.Sl
