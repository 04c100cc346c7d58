/-
  Operations that change memory, as effects on a list of assertions; the search for a block in a list.
-/
import Derived.Test.YtlahgihjjabgmaaSlOps
namespace Go.Sl
open Go
set_option linter.unusedVariables false

/-! ### Where a block stands in a list -/
class HasBlk (L : List HProp) (b : Nat) (l : outParam (List Value)) (e : outParam Nat) (fr : outParam (Nat × Nat)) : Prop where
  out : ∀ h, Sat L h → h b = some (obj l e fr)
instance HasBlk.here {L : List HProp} {b : Nat} {l : List Value} {e : Nat} {fr : Nat × Nat} : HasBlk (blk b l e fr :: L) b l e fr := ⟨fun h H => by
  obtain ⟨h1, s, a⟩ := H.fact; exact s _ _ a⟩
instance (priority := low) HasBlk.there {A : HProp} {L : List HProp} {b : Nat} {l : List Value} {e : Nat} {fr : Nat × Nat} [i : HasBlk L b l e fr] : HasBlk (A :: L) b l e fr := ⟨fun h H => i.out _ H.tail⟩

class Upd (L : List HProp) (b : Nat) (l : outParam (List Value)) (e : outParam Nat) (fr : outParam (Nat × Nat)) (l' : List Value) (L' : outParam (List HProp)) : Prop where
  i : ∃ i, L[i]? = some (blk b l e fr) ∧ L' = L.set i (blk b l' e fr)
instance Upd.here {L : List HProp} {b : Nat} {l l' : List Value} {e : Nat} {fr : Nat × Nat} : Upd (blk b l e fr :: L) b l e fr l' (blk b l' e fr :: L) := ⟨0, rfl, rfl⟩
instance (priority := low) Upd.there {A : HProp} {L L' : List HProp} {b : Nat} {l l' : List Value} {e : Nat} {fr : Nat × Nat} [u : Upd L b l e fr l' L'] : Upd (A :: L) b l e fr l' (A :: L') := ⟨by
  obtain ⟨i, h1, h2⟩ := u.i
  exact ⟨i + 1, by simpa using h1, by rw [h2]; rfl⟩⟩

section
variable {P : Program} {W0 w : World} {L : List HProp} {ρ : Operand → Value} {d : Option Nat} {ty : TypeId} {pos : String} {af : Array Edge} {g : Option (Nat × Bool)}

theorem On.blkB (H : On W0 L w) {b : Nat} {l : List Value} {e : Nat} {fr : Nat × Nat} [i : HasBlk L b l e fr] : w.heap[b]? = some (obj l e fr) := i.out _ H.sat
theorem On.cellB (H : On W0 L w) {b off : Nat} {l : List Value} {e : Nat} {fr : Nat × Nat} {v : Value} [i : HasBlk L b l e fr] (hv : l[off]? = some v) : w.cell? ⟨b, off, none⟩ = some v := by
  rw [cell_of_row w b off _ _ _ (H.blkB (i := i))]; simpa using hv
theorem On.rowB (H : On W0 L w) {b o n : Nat} {l : List Value} {e : Nat} {fr : Nat × Nat} [i : HasBlk L b l e fr] : ∀ j u, ((l.drop o).take n)[j]? = some u → w.cell? ⟨b, o + j, none⟩ = some u := by
  intro j u hj
  rw [List.getElem?_take] at hj
  split at hj
  · rw [List.getElem?_drop] at hj; exact H.cellB (i := i) hj
  · cases hj

theorem On.rowV (H : On W0 L w) {b o n : Nat} {l vs : List Value} {e : Nat} {fr : Nat × Nat} [i : HasBlk L b l e fr] (hv : (l.drop o).take n = vs) : ∀ j u, vs[j]? = some u → w.cell? ⟨b, o + j, none⟩ = some u := fun j u hj => H.rowB (i := i) (n := n) j u (by rw [hv]; exact hj)
/-- A struct that lies in a block of the list. -/
theorem run_loadB {t n b o : Nat} {x : Operand} {l vs : List Value} {e : Nat} {fr : Nat × Nat} (H : On W0 L w) (hA : ∀ w, (isAgg t).run P w = .ok true w) (hS : ∀ w, (sizeOf t).run P w = .ok n w) (h : ρ x = .pointer (some ⟨b, o, none⟩)) [i : HasBlk L b l e fr]
    (hv : (l.drop o).take n = vs) (hl : vs.length = n) : (execOp ρ ⟨d, .load t x, ty, pos, af, g⟩).run P w = .ok (.value (.agg vs.toArray)) w :=
  run_loadN hA hS h hl (fun j u hj => H.rowB (i := i) (n := n) j u (by rw [hv]; exact hj))

/-! ### To the front, by hand -/
variable {A B C D E F : HProp}
theorem On.p1 (H : On W0 (A :: B :: L) w) : On W0 (B :: A :: L) w := H.imp fun _ h => h.swap
theorem On.p2 (H : On W0 (A :: B :: C :: L) w) : On W0 (C :: A :: B :: L) w := H.pull 2 rfl
theorem On.p3 (H : On W0 (A :: B :: C :: D :: L) w) : On W0 (D :: A :: B :: C :: L) w := H.pull 3 rfl
theorem On.p4 (H : On W0 (A :: B :: C :: D :: E :: L) w) : On W0 (E :: A :: B :: C :: D :: L) w := H.pull 4 rfl
theorem On.p5 (H : On W0 (A :: B :: C :: D :: E :: F :: L) w) : On W0 (F :: A :: B :: C :: D :: E :: L) w := H.pull 5 rfl
/-- the first behind the second, third .. -/
theorem On.q2 (H : On W0 (A :: B :: C :: L) w) : On W0 (B :: C :: A :: L) w := H.p2.p2
theorem On.d1 (H : On W0 (A :: B :: L) w) : On W0 (A :: L) w := H.p1.tail
theorem On.d2 (H : On W0 (A :: B :: C :: L) w) : On W0 (A :: B :: L) w := H.p2.tail
theorem On.d3 (H : On W0 (A :: B :: C :: D :: L) w) : On W0 (A :: B :: C :: L) w := H.p3.tail
theorem On.d4 (H : On W0 (A :: B :: C :: D :: E :: L) w) : On W0 (A :: B :: C :: D :: L) w := H.p4.tail
theorem On.head (H : On W0 (A :: L) w) (i : ∀ h, A h → B h) : On W0 (B :: L) w := H.imp fun _ h => h.imp i
theorem On.unexists {ι : Type} {G : ι → HProp} (H : On W0 ((fun h => ∃ x, G x h) :: L) w) : ∃ x, On W0 (G x :: L) w := by
  obtain ⟨h1, h2, d, s1, s2, ⟨x, a⟩, r⟩ := H.sat
  exact ⟨x, H.os, H.output, H.tape, H.size, ⟨h1, h2, d, s1, s2, a, r⟩⟩
/-- A plain fact that the head says. -/
theorem On.headFact {p : Prop} (H : On W0 (A :: L) w) (i : ∀ h, A h → p) : p := by
  obtain ⟨h1, _, a⟩ := H.sat.fact
  exact i _ a

/-! ### Effects -/
theorem eff_val {o : Oper} {R : Value → World → Prop} {v : Value} {w' : World} (h : (execOp ρ o).run P w = .ok (.value v) w') (hR : R v w') : Eff P ρ o w R := .inl ⟨v, w', h, hR⟩

theorem eff_store {t b o : Nat} {x y : Operand} {v : Value} {l : List Value} {e : Nat} {fr : Nat × Nat} {L' : List HProp} (H : On W0 L w) (hS : ∀ w, (sizeOf t).run P w = .ok 1 w) (h : ρ x = .pointer (some ⟨b, o, none⟩)) (hy : ρ y = v) (hv : v.oneCell' = true)
    [u : Upd L b l e fr (l.set o v) L'] (hlt : Nat.ble (o + 1) l.length = true) (hf : free fr o = true) :
    Eff P ρ ⟨d, .store t x y, ty, pos, af, g⟩ w (fun _ w' => On W0 L' w') := by
  obtain ⟨i, h1, h2⟩ := u.i
  refine .inr (.inl ⟨_, run_storeOne hS h hy hv (H.block i h1) hlt hf, ?_⟩)
  rw [h2]
  exact H.setCellL i h1 o v

theorem eff_storeN {t n b o : Nat} {x y : Operand} {vs : List Value} {l : List Value} {e : Nat} {fr : Nat × Nat} {L' : List HProp} (H : On W0 L w) (hS : ∀ w, (sizeOf t).run P w = .ok n w) (h : ρ x = .pointer (some ⟨b, o, none⟩)) (hy : ρ y = .agg vs.toArray) (hn : vs.length = n)
    (hv : vs.all (·.oneCell') = true) [u : Upd L b l e fr (splice l o vs) L'] (hlt : Nat.ble (o + n) l.length = true) (hf : ∀ k, o ≤ k → k < o + n → free fr k = true) :
    Eff P ρ ⟨d, .store t x y, ty, pos, af, g⟩ w (fun _ w' => On W0 L' w') := by
  obtain ⟨i, h1, h2⟩ := u.i
  obtain ⟨w', hr, hO⟩ := run_storeN (P := P) (ρ := ρ) (d := d) (ty := ty) (pos := pos) (af := af) (g := g) H h1 hS h hy hn (by simpa using hv) (Nat.le_of_ble_eq_true hlt) hf
  exact .inr (.inl ⟨w', hr, h2 ▸ hO⟩)

theorem eff_alloc {t : Nat} {z : Value} {l : List Value} (H : On W0 L w) (hZ : ∀ w, (zeroValue t).run P w = .ok z w) (hz : z.cells = l.toArray) :
    Eff P ρ ⟨d, .alloc t, ty, pos, af, g⟩ w (fun v w' => ∃ b, v = .pointer (some ⟨b, 0, none⟩) ∧ On W0 (blk b l t :: L) w') :=
  .inl ⟨_, _, run_alloc hZ, _, rfl, by rw [hz]; exact H.alloc _⟩
theorem eff_box {t : Nat} {x : Operand} {v : Value} {l : List Value} (H : On W0 L w) (h : ρ x = v) (hz : v.cells = l.toArray) :
    Eff P ρ ⟨d, .box t x, ty, pos, af, g⟩ w (fun v w' => ∃ b, v = .pointer (some ⟨b, 0, none⟩) ∧ On W0 (blk b l t :: L) w') :=
  .inl ⟨_, _, run_box h, _, rfl, by rw [hz]; exact H.alloc _⟩

theorem eff_call {env : Env} {f : FuncId} {xs : List Operand} {tys : Array TypeId} {R : Value → World → Prop} (hf : ∀ args w, (callFunc f args).run P w = .ok (.enter f args) w) (hc : Calls P f (xs.map (evo env)).toArray w (Ret R)) :
    Eff P (evo env) ⟨d, .call { callee := .value (.func f), args := xs.toArray, argTypes := tys }, ty, pos, af, g⟩ w R :=
  .inr (.inr ⟨f, _, w, run_callE hf, hc⟩)

/-! ### Composite values -/
/-- The parts laid into the zero value's cells. -/
def placed (pl : List (Nat × Nat)) : List Value → List (Nat × Value) → List Value
  | z, [] => z
  | z, (i, v) :: ps => placed pl (splice z ((pl[i]?.getD (0, 0)).1) v.cells.toList) ps
def fits (pl : List (Nat × Nat)) (n : Nat) : List (Nat × Value) → Prop
  | [] => True
  | (i, v) :: ps => (∃ off size, pl[i]? = some (off, size) ∧ v.cells.size = size ∧ off + size ≤ n) ∧ fits pl n ps

theorem foldl_splice (z : List Value) (off : Nat) (vs : List Value) : ∀ (k : Nat), off + k + vs.length ≤ z.length →
    (vs.zipIdx k).foldl (fun cs (c, j) => cs.setIfInBounds (off + j) c) z.toArray = (splice z (off + k) vs).toArray := by
  induction vs generalizing z with
  | nil => intro k h; simp [splice]
  | cons v vs ih =>
    intro k h
    simp at h
    simp only [List.zipIdx_cons, List.foldl_cons, List.setIfInBounds_toArray]
    rw [ih (z.set (off + k) v) (k + 1) (by simp; omega)]
    congr 1
    unfold splice
    have := list_seg_step z (off + k) v vs (by omega)
    simpa [Nat.add_assoc] using this

theorem fill_placed (place : Nat → Option (Nat × Nat)) (pl : List (Nat × Nat)) (hp : ∀ i, place i = pl[i]?) : ∀ (ps : List (Nat × Value)) (z : List Value), fits pl z.length ps → Instr.fill place z.toArray ps = some (placed pl z ps).toArray := by
  intro ps
  induction ps with
  | nil => intro z _; rfl
  | cons p ps ih =>
    obtain ⟨i, v⟩ := p
    intro z h
    obtain ⟨⟨off, size, h1, h2, h3⟩, h4⟩ := h
    unfold Instr.fill
    rw [hp, h1]
    have hle : v.cells.toList.length = size := by simpa using h2
    have c : ¬ (v.cells.size ≠ size ∨ off + v.cells.size > z.toArray.size) := by simp [h2]; omega
    simp only [Bool.or_eq_true, decide_eq_true_eq]
    rw [if_neg (by simpa using c)]
    have hf := foldl_splice z off v.cells.toList 0 (by simp at hle ⊢; omega)
    have e : (v.cells.zipIdx.foldl (fun cs (x : Value × Nat) => cs.setIfInBounds (off + x.2) x.1) z.toArray) = (splice z off v.cells.toList).toArray := by
      rw [← Array.foldl_toList]
      simpa using hf
    rw [e, ih _ (by rw [splice_length (by omega)]; exact h4)]
    simp [placed, h1]

theorem run_buildS {t : Nat} {ps : List (Nat × Operand)} {fs : Array Field} {z : List Value} {pl : List (Nat × Nat)} {vs : List (Nat × Value)} {out : List Value}
    (hU : P.underlying t = some (.struct fs)) (hZ : ∀ w, (zeroValue t).run P w = .ok (.agg z.toArray) w) (hP : ∀ w, ((fs.mapM fun f => do pure (f.offset, ← sizeOf f.type) : Sem (Array (Nat × Nat)))).run P w = .ok pl.toArray w)
    (hv : ps.map (fun p => (p.1, ρ p.2)) = vs) (hf : fits pl z.length vs) (ho : placed pl z vs = out) :
    (execOp ρ ⟨d, .build t ps.toArray, ty, pos, af, g⟩).run P w = .ok (.value (.agg out.toArray)) w := by
  have h : ∀ w, (Instr.build t (ps.toArray.map fun (i, x) => (i, ρ x))).run P w = .ok (.agg out.toArray) w := by
    intro w
    have hm : (ps.toArray.map fun (x : Nat × Operand) => (x.1, ρ x.2)).toList = vs := by rw [← hv]; simp
    unfold Instr.build
    simp only [Sem.run_bind, hZ, Result.andThen_ok, run_underlying hU]
    rw [hP]
    simp only [Result.andThen_ok, Value.cells]
    have := fill_placed (fun i => pl.toArray[i]?) pl (by simp) vs z hf
    rw [hm, this, ho]
    rfl
  exact run_build h

theorem eff_buildSlice {t n e size : Nat} {ps : List (Nat × Operand)} {z : Value} {zl : List Value} {pl : List (Nat × Nat)} {vs : List (Nat × Value)} {out : List Value} (H : On W0 L w)
    (hU : P.underlying t = some (.slice e)) (hS : ∀ w, (sizeOf e).run P w = .ok size w) (hZ : ∀ w, (zeroValue e).run P w = .ok z w) (hsmall : n * size ≤ 16777216) (hzl : ((Array.range (n * size)).map fun i => (if n * size = 0 then #[] else z.cells)[i % (if n * size = 0 then #[] else z.cells).size]!) = zl.toArray)
    (hpl : pl = (List.range n).map fun i => (i * size, size))
    (hv : ps.map (fun p => (p.1, ρ p.2)) = vs) (hlt : ∀ p ∈ vs, p.1 < n) (hf : fits pl zl.length vs) (ho : placed pl zl vs = out) :
    Eff P ρ ⟨d, .buildSlice t n ps.toArray, ty, pos, af, g⟩ w (fun v w' => ∃ b, v = .slice (some ⟨b, 0, none⟩) n n ∧ On W0 (blk b out e :: L) w') := by
  refine .inl ⟨.slice (some ⟨w.heap.size, 0, none⟩) n n, w.alloc (obj out e), ?_, _, rfl, H.alloc _⟩
  have hm : (ps.toArray.map fun (x : Nat × Operand) => (x.1, ρ x.2)).toList = vs := by rw [← hv]; simp
  have hsm : ¬ (n * size > 2 ^ 24) := by omega
  have key : ∀ (vs : List (Nat × Value)) (zl : List Value), (∀ p ∈ vs, p.1 < n) → fits pl zl.length vs → Instr.fill (fun i => some (i * size, size)) zl.toArray vs = some (placed pl zl vs).toArray := by
    intro vs
    induction vs with
    | nil => intro zl _ _; rfl
    | cons p ps ih =>
      obtain ⟨i, v⟩ := p
      intro zl hlt h
      obtain ⟨⟨off, size', h1, h2, h3⟩, h4⟩ := h
      have hi : i < n := hlt (i, v) (by simp)
      have hpi : pl[i]? = some (i * size, size) := by rw [hpl]; simp [hi]
      rw [hpi] at h1
      cases h1
      have := fill_placed (fun j => if j = i then some (i * size, size) else none) [] 
      unfold Instr.fill
      have hle : v.cells.toList.length = size := by simpa using h2
      have c : ¬ (v.cells.size ≠ size ∨ i * size + v.cells.size > zl.toArray.size) := by simp [h2]; omega
      simp only [Bool.or_eq_true, decide_eq_true_eq]
      rw [if_neg (by simpa using c)]
      have hf := foldl_splice zl (i * size) v.cells.toList 0 (by simp at hle ⊢; omega)
      have e : (v.cells.zipIdx.foldl (fun cs (x : Value × Nat) => cs.setIfInBounds (i * size + x.2) x.1) zl.toArray) = (splice zl (i * size) v.cells.toList).toArray := by
        rw [← Array.foldl_toList]
        simpa using hf
      rw [e, ih _ (fun q hq => hlt q (List.mem_cons_of_mem _ hq)) (by rw [splice_length (by omega)]; exact h4)]
      simp [placed, hpi]
  have hfill := key vs zl hlt hf
  rw [ho] at hfill
  simp only [execOp, Instr.buildSlice, Sem.run_bind, run_underlying hU, Result.andThen_ok, hS, if_neg hsm]
  by_cases h0 : n * size = 0
  · simp only [h0, if_true] at hzl ⊢
    rw [hm]
    simp only [Sem.run_bind, Sem.run_pure, Result.andThen_ok, hzl, hfill]
    rfl
  · simp only [h0, if_false] at hzl ⊢
    rw [hm]
    simp only [Sem.run_bind, Sem.run_pure, Result.andThen_ok, hZ, hzl, hfill]
    rfl
end
end Go.Sl
