/-
  Structs of three numbers compared; three results, the first of them a struct.
-/
import Derived.Test.YtlahgihjjabgmaaSlFunc
namespace Go.Sl
open Go
set_option linter.unusedVariables false
section
variable {P : Program} {W0 w : World} {L : List HProp} {ρ : Operand → Value} {d : Option Nat} {ty : TypeId} {pos : String} {af : Array Edge} {g : Option (Nat × Bool)}
theorem eqIn3 {t : TypeId} {f1 f2 f3 : Field} {k1 k2 k3 j1 j2 j3 : IntKind} {a1 a2 a3 b1 b2 b3 : Int} (hU : P.underlying t = some (.struct #[f1, f2, f3])) (hn1 : f1.name ≠ "_") (hn2 : f2.name ≠ "_") (hn3 : f3.name ≠ "_")
    (ho1 : f1.offset = 0) (ho2 : f2.offset = 1) (ho3 : f3.offset = 2) (hE1 : P.underlying f1.type = some (.int j1)) (hE2 : P.underlying f2.type = some (.int j2)) (hE3 : P.underlying f3.type = some (.int j3))
    (hA1 : ∀ w, (isAgg f1.type).run P w = .ok false w) (hA2 : ∀ w, (isAgg f2.type).run P w = .ok false w) (hA3 : ∀ w, (isAgg f3.type).run P w = .ok false w) (hH : P.stoodInHeld t = false) :
    (Op.equalIn 10000 t (.agg #[.int k1 a1, .int k2 a2, .int k3 a3]) (.agg #[.int k1 b1, .int k2 b2, .int k3 b3])).run P w = .ok (decide (a1 = b1 ∧ a2 = b2 ∧ a3 = b3)) w := by
  have e1 : ∀ a b : Int, (Op.equalIn 9999 f1.type (.int k1 a) (.int k1 b)).run P w = .ok (a == b) w := fun a b => eqIn_int (P := P) (w := w) hE1 9998
  have e2 : ∀ a b : Int, (Op.equalIn 9999 f2.type (.int k2 a) (.int k2 b)).run P w = .ok (a == b) w := fun a b => eqIn_int (P := P) (w := w) hE2 9998
  have e3 : ∀ a b : Int, (Op.equalIn 9999 f3.type (.int k3 a) (.int k3 b)).run P w = .ok (a == b) w := fun a b => eqIn_int (P := P) (w := w) hE3 9998
  rw [show (10000 : Nat) = 9999 + 1 from rfl]
  unfold Op.equalIn
  by_cases h1 : a1 = b1 <;> by_cases h2 : a2 = b2 <;> by_cases h3 : a3 = b3 <;> simp [run_underlying hU, hH, part, hA1, hA2, hA3, ho1, ho2, ho3, hn1, hn2, hn3, e1, e2, e3, h1, h2, h3]
theorem run_eqlI3 {t yt : TypeId} {x y : Operand} {f1 f2 f3 : Field} {k1 k2 k3 j1 j2 j3 : IntKind} {a1 a2 a3 b1 b2 b3 : Int} (hU : P.underlying t = some (.struct #[f1, f2, f3])) (hn1 : f1.name ≠ "_") (hn2 : f2.name ≠ "_") (hn3 : f3.name ≠ "_")
    (ho1 : f1.offset = 0) (ho2 : f2.offset = 1) (ho3 : f3.offset = 2) (hE1 : P.underlying f1.type = some (.int j1)) (hE2 : P.underlying f2.type = some (.int j2)) (hE3 : P.underlying f3.type = some (.int j3))
    (hA1 : ∀ w, (isAgg f1.type).run P w = .ok false w) (hA2 : ∀ w, (isAgg f2.type).run P w = .ok false w) (hA3 : ∀ w, (isAgg f3.type).run P w = .ok false w) (hH : P.stoodInHeld t = false) (hG : P.eqGuardType P.depth t = false)
    (hx : ρ x = .agg #[.int k1 a1, .int k2 a2, .int k3 a3]) (hy : ρ y = .agg #[.int k1 b1, .int k2 b2, .int k3 b3]) :
    (execOp ρ ⟨d, .binOp .eql t x y yt, ty, pos, af, g⟩).run P w = .ok (.value (.bool (decide (a1 = b1 ∧ a2 = b2 ∧ a3 = b3)))) w := by
  have key := eqIn3 (P := P) (w := w) (k1 := k1) (k2 := k2) (k3 := k3) (a1 := a1) (a2 := a2) (a3 := a3) (b1 := b1) (b2 := b2) (b3 := b3) hU hn1 hn2 hn3 ho1 ho2 ho3 hE1 hE2 hE3 hA1 hA2 hA3 hH
  simp [execOp, eqGuard, hG, hx, hy, binOp, Op.equal, Op.maxDepth, key]
theorem run_neqI3 {t yt : TypeId} {x y : Operand} {f1 f2 f3 : Field} {k1 k2 k3 j1 j2 j3 : IntKind} {a1 a2 a3 b1 b2 b3 : Int} (hU : P.underlying t = some (.struct #[f1, f2, f3])) (hn1 : f1.name ≠ "_") (hn2 : f2.name ≠ "_") (hn3 : f3.name ≠ "_")
    (ho1 : f1.offset = 0) (ho2 : f2.offset = 1) (ho3 : f3.offset = 2) (hE1 : P.underlying f1.type = some (.int j1)) (hE2 : P.underlying f2.type = some (.int j2)) (hE3 : P.underlying f3.type = some (.int j3))
    (hA1 : ∀ w, (isAgg f1.type).run P w = .ok false w) (hA2 : ∀ w, (isAgg f2.type).run P w = .ok false w) (hA3 : ∀ w, (isAgg f3.type).run P w = .ok false w) (hH : P.stoodInHeld t = false) (hG : P.eqGuardType P.depth t = false)
    (hx : ρ x = .agg #[.int k1 a1, .int k2 a2, .int k3 a3]) (hy : ρ y = .agg #[.int k1 b1, .int k2 b2, .int k3 b3]) :
    (execOp ρ ⟨d, .binOp .neq t x y yt, ty, pos, af, g⟩).run P w = .ok (.value (.bool (decide (¬ (a1 = b1 ∧ a2 = b2 ∧ a3 = b3))))) w := by
  have key := eqIn3 (P := P) (w := w) (k1 := k1) (k2 := k2) (k3 := k3) (a1 := a1) (a2 := a2) (a3 := a3) (b1 := b1) (b2 := b2) (b3 := b3) hU hn1 hn2 hn3 ho1 ho2 ho3 hE1 hE2 hE3 hA1 hA2 hA3 hH
  simp [execOp, eqGuard, hG, hx, hy, binOp, Op.equal, Op.maxDepth, key]
theorem val_true {p : Prop} [Decidable p] {o : Oper} {w' : World} (H : (execOp ρ o).run P w = .ok (.value (.bool (decide p))) w') (h : p) : (execOp ρ o).run P w = .ok (.value (.bool true)) w' := by rw [H, decide_eq_true h]
theorem val_false {p : Prop} [Decidable p] {o : Oper} {w' : World} (H : (execOp ρ o).run P w = .ok (.value (.bool (decide p))) w') (h : ¬ p) : (execOp ρ o).run P w = .ok (.value (.bool false)) w' := by rw [H, decide_eq_false h]
end
section
variable {P : Program} {w : World}
theorem results_cell_tmp2 {fn : Func} {p u v : Tmp} {ty : TypeId} (h : fn.results = #[.cell p ty, .tmp u, .tmp v]) (tmps : Array Value) (P : Program) (w : World) :
    (results fn tmps).run P w =
      ((asAddr (tmps.getD p undef)).run P w).andThen fun a w₁ => ((loadVar ty a).run P w₁).andThen fun x w₂ => .ok (.tuple #[x, tmps.getD u undef, tmps.getD v undef]) w₂ := by
  simp only [results, h]
  simp [Sem.run_bind, Result.andThen]
theorem bodyQ.rctt {N : Nat} {env : Env} {fn : Func} {R : Value → World → Prop} {t u v rt b n : Nat} {vs : List Value} {v2 v3 : Value} (h : fn.results = #[.cell t rt, .tmp u, .tmp v]) (hA : ∀ w, (isAgg rt).run P w = .ok true w) (hS : ∀ w, (sizeOf rt).run P w = .ok n w)
    (he : env t = .pointer (some ⟨b, 0, none⟩)) (hl : vs.length = n) (hc : ∀ j u, vs[j]? = some u → w.cell? ⟨b, 0 + j, none⟩ = some u) (h2 : env u = v2) (h3 : env v = v3) (hR : R (.tuple #[.agg vs.toArray, v2, v3]) w) :
    bodyQ P fn R .ret env w := by
  refine ⟨.tuple #[.agg vs.toArray, v2, v3], fun tmps hg => ?_, hR⟩
  have hp : tmps.getD t undef = .pointer (some ⟨b, 0, none⟩) := by rw [hg, he]
  have hp' : tmps[t]?.getD undef = .pointer (some ⟨b, 0, none⟩) := by simpa using hp
  have := run_loadCells_list (P := P) w ⟨b, 0, none⟩ vs (fun j v hv => by rw [Addr.add_mk]; exact hc j v hv)
  rw [hl] at this
  rw [results_cell_tmp2 h, hp]
  simp only [asAddr, Sem.run_pure, Result.andThen_ok]
  simp [loadVar, hA, hS, this, ← h2, ← h3, ← hg u, ← hg v]
theorem bodyQ.rcttB {W0 : World} {L : List HProp} {env : Env} {fn : Func} {R : Value → World → Prop} {t u v rt b n : Nat} {l vs : List Value} {v2 v3 : Value} {e : Nat} {fr : Nat × Nat} (H : On W0 L w) (h : fn.results = #[.cell t rt, .tmp u, .tmp v]) (hA : ∀ w, (isAgg rt).run P w = .ok true w) (hS : ∀ w, (sizeOf rt).run P w = .ok n w)
    (he : env t = .pointer (some ⟨b, 0, none⟩)) [i : HasBlk L b l e fr] (hv : l = vs) (hl : vs.length = n) (h2 : env u = v2) (h3 : env v = v3) (hR : R (.tuple #[.agg vs.toArray, v2, v3]) w) : bodyQ P fn R .ret env w :=
  bodyQ.rctt (N := 0) h hA hS he hl (fun j u hj => by rw [Nat.zero_add]; exact H.cellB (i := i) (by rw [hv]; exact hj)) h2 h3 hR
end
end Go.Sl
