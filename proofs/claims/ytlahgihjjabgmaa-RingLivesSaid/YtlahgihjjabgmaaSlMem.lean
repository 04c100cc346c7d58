/-
  Memory: blocks as lists of cells, loads and stores, slices that are read, slices that are owned.
-/
import Derived.Test.YtlahgihjjabgmaaSlDraw
namespace Go.Sl
open Go
set_option linter.unusedVariables false

abbrev obj (l : List Value) (e : Nat) (fr : Nat × Nat := (0, 0)) : Obj := .cells l.toArray e fr
/-- Block b is this row of cells. -/
abbrev blk (b : Nat) (l : List Value) (e : Nat) (fr : Nat × Nat := (0, 0)) : HProp := pts b (obj l e fr)

def free (fr : Nat × Nat) (off : Nat) : Bool := !(Nat.ble fr.1 off && Nat.ble (off + 1) fr.2)

theorem Addr.add_mk (b o n : Nat) : (⟨b, o, none⟩ : Addr).add n = ⟨b, o + n, none⟩ := by unfold Addr.add; split <;> simp_all

section
variable {P : Program} {W0 w : World} {L : List HProp}

theorem On.cellL (H : On W0 L w) (i : Nat) {b : Nat} {l : List Value} {e : Nat} {fr : Nat × Nat} (hi : L[i]? = some (blk b l e fr)) (off : Nat) {v : Value} (hv : l[off]? = some v) :
    w.cell? ⟨b, off, none⟩ = some v := H.cell i hi (by simpa using hv)

theorem frozen_of {w : World} {b : Nat} {l : List Value} {e : Nat} {fr : Nat × Nat} (hb : w.heap[b]? = some (obj l e fr)) {off : Nat} (hf : free fr off = true) : w.frozen? ⟨b, off, none⟩ = false := by
  unfold World.frozen?
  rw [hb]
  simp only [free, Bool.not_eq_true', Bool.and_eq_false_imp, Nat.ble_eq] at hf
  show (decide (fr.1 ≤ off) && decide (off < fr.2)) = false
  rw [Bool.and_eq_false_imp]
  intro h
  have := hf (by simpa using h)
  rw [← Bool.not_eq_true] at this
  rw [Nat.ble_eq] at this
  simp; omega

/-- A store of one cell. -/
theorem run_store1 {b off : Nat} {l : List Value} {e : Nat} {fr : Nat × Nat} (hb : w.heap[b]? = some (obj l e fr)) (hlt : off < l.length) (hf : free fr off = true) {v : Value} (hv : v.oneCell' = true) :
    (store ⟨b, off, none⟩ v).run P w = .ok () (w.setCell ⟨b, off, none⟩ v) := by
  rw [run_store P w _ v _ hv]
  have hc : w.cell? ⟨b, off, none⟩ = some l[off] := by rw [cell_of_row w b off _ _ _ hb]; simp [hlt]
  rw [hc, frozen_of hb hf]
  rfl

theorem run_storeCells_fr (g o : Nat) (t : TypeId) (fr : Nat × Nat) : ∀ (vs : List Value) (i : Nat) (cur : Array Value) (w : World), w.heap[g]? = some (.cells cur t fr) → o + i + vs.length ≤ cur.size → (∀ v ∈ vs, v.oneCell' = true) →
    (∀ k, o + i ≤ k → k < o + i + vs.length → free fr k = true) →
    (storeCells ⟨g, o, none⟩ vs i).run P w = .ok () (w.setRow g (cur.toList.take (o + i) ++ vs ++ cur.toList.drop (o + i + vs.length)).toArray)
  | [], i, cur, w, hg, _, _, _ => by
    simp only [storeCells, List.append_nil, List.length_nil, Nat.add_zero, List.take_append_drop, Array.toArray_toList]
    rw [setRow_self w g cur t fr hg]
    rfl
  | v :: rest, i, cur, w, hg, hl, h1, hfr => by
    have hi : o + i < cur.size := by simp at hl; omega
    have hadd : (⟨g, o, none⟩ : Addr).add i = ⟨g, o + i, none⟩ := by unfold Addr.add; split <;> simp_all
    have hcell : w.cell? ⟨g, o + i, none⟩ = some cur[o + i] := by simp [World.cell?, hg, hi]
    have hfro : w.frozen? ⟨g, o + i, none⟩ = false := frozen_of (l := cur.toList) (by simpa [obj] using hg) (hfr (o + i) (Nat.le_refl _) (by simp))
    have hst : (store ((⟨g, o, none⟩ : Addr).add i) v).run P w = .ok () (w.setRow g (cur.setIfInBounds (o + i) v)) := by
      rw [hadd, run_store P w _ v _ (h1 v (by simp)), hcell]
      simp [hfro, setCell_eq_setRow w g (o + i) cur t fr v hg]
    have ih := run_storeCells_fr g o t fr rest (i + 1) (cur.setIfInBounds (o + i) v) (w.setRow g (cur.setIfInBounds (o + i) v)) (setRow_heap w g cur _ t _ hg) (by simp at hl ⊢; omega) (fun x hx => h1 x (by simp [hx])) (fun k h1 h2 => hfr k (by omega) (by simp; omega))
    simp only [storeCells, Sem.run_bind, hst, Result.andThen_ok, ih, setRow_setRow]
    congr 3
    have e := list_seg_step cur.toList (o + i) v rest (by simp at hl ⊢; omega)
    simpa [Array.toList_setIfInBounds, Nat.add_assoc] using e

/-- A stretch of a list, written over. -/
def splice (l : List Value) (o : Nat) (vs : List Value) : List Value := l.take o ++ vs ++ l.drop (o + vs.length)
theorem splice_length {l : List Value} {o : Nat} {vs : List Value} (h : o + vs.length ≤ l.length) : (splice l o vs).length = l.length := by
  simp only [splice, List.length_append, List.length_take, List.length_drop]; omega

theorem On.setCellL (H : On W0 L w) (i : Nat) {b : Nat} {l : List Value} {e : Nat} {fr : Nat × Nat} (hi : L[i]? = some (blk b l e fr)) (off : Nat) (v : Value) :
    On W0 (L.set i (blk b (l.set off v) e fr)) (w.setCell ⟨b, off, none⟩ v) := by
  have := H.setCell i hi off v
  simpa [blk, obj, List.setIfInBounds_toArray] using this

theorem On.storeCells (H : On W0 L w) (i : Nat) {b : Nat} {l : List Value} {e : Nat} {fr : Nat × Nat} (hi : L[i]? = some (blk b l e fr)) (o : Nat) (vs : List Value) (hl : o + vs.length ≤ l.length) (h1 : ∀ v ∈ vs, v.oneCell' = true)
    (hfr : ∀ k, o ≤ k → k < o + vs.length → free fr k = true) : ∃ w', (storeCells ⟨b, o, none⟩ vs).run P w = .ok () w' ∧ On W0 (L.set i (blk b (splice l o vs) e fr)) w' := by
  have hst := run_storeCells_fr (P := P) b o e fr vs 0 l.toArray w (H.block i hi) (by simpa using hl) h1 (by simpa using hfr)
  refine ⟨_, hst, ?_⟩
  have := H.setRow (cs' := (splice l o vs).toArray) i hi
  simpa [splice] using this
end

/-! ### Reading -/
def cellH (h : Hp) (b i : Nat) : Option Value := match h b with
  | some (.cells c _ _) => c[i]?
  | _ => none
theorem cellH_mono {h k : Hp} (s : Sub h k) {b i : Nat} {v : Value} (e : cellH h b i = some v) : cellH k b i = some v := by
  unfold cellH at e ⊢
  cases hb : h b with
  | none => rw [hb] at e; cases e
  | some o => rw [s b o hb]; rw [hb] at e; exact e
theorem cellH_hp (w : World) (b i : Nat) : cellH (hp w) b i = w.cell? ⟨b, i, none⟩ := by
  unfold cellH hp World.cell?
  split <;> simp_all

/-- A row of cells from a place on. -/
def rowAt (b o : Nat) (xs : List Value) : HProp := fun h => ∀ j u, xs[j]? = some u → cellH h b (o + j) = some u
theorem rowAt_mono (b o : Nat) (xs : List Value) : Mono (rowAt b o xs) := fun h k s H j u e => cellH_mono s (H j u e)

/-- A slice that reads as these cells (n elements of 'size' cells each). -/
def Cells (size : Nat) (v : Value) (n : Nat) (xs : List Value) : HProp := fun h =>
  xs.length = n * size ∧ ∃ ao cap, v = .slice ao n cap ∧ n ≤ cap ∧ cap ≤ maxLen ∧ (ao = none → cap = 0) ∧ (0 < n → ∃ b o, ao = some ⟨b, o, none⟩ ∧ rowAt b o xs h)
theorem Cells_mono (size : Nat) (v : Value) (n : Nat) (xs : List Value) : Mono (Cells size v n xs) := fun h k s ⟨hl, ao, cap, hv, h1, h2, h3, h4⟩ =>
  ⟨hl, ao, cap, hv, h1, h2, h3, fun hn => let ⟨b, o, e, r⟩ := h4 hn; ⟨b, o, e, rowAt_mono _ _ _ _ _ s r⟩⟩

/-- A slice that is owned: its block is nobody else's. -/
def Own (size : Nat) (v : Value) (n : Nat) (xs : List Value) : HProp := fun h =>
  xs.length = n * size ∧ ((n = 0 ∧ ∃ ao, v = .slice ao 0 0) ∨
    ∃ g off cap cur e fr, v = .slice (some ⟨g, off, none⟩) n cap ∧ n ≤ cap ∧ cap ≤ maxLen ∧ off + cap * size ≤ cur.length ∧ (cur.drop off).take (n * size) = xs ∧
      (fr.1 = fr.2 ∨ cur.length ≤ fr.1) ∧ h g = some (obj cur e fr))
theorem free_ok {fr : Nat × Nat} {n : Nat} (h : fr.1 = fr.2 ∨ n ≤ fr.1) {k : Nat} (hk : k < n) : free fr k = true := by
  unfold free
  simp only [Bool.not_eq_true', Bool.and_eq_false_imp, Nat.ble_eq]
  intro hle
  rw [← Bool.not_eq_true, Nat.ble_eq]
  omega
theorem Own_mono (size : Nat) (v : Value) (n : Nat) (xs : List Value) : Mono (Own size v n xs) := fun h k s ⟨hl, H⟩ =>
  ⟨hl, H.imp id fun ⟨g, off, cap, cur, e, fr, h1, h2, h3, h4, h5, h6, h7⟩ => ⟨g, off, cap, cur, e, fr, h1, h2, h3, h4, h5, h6, s _ _ h7⟩⟩

theorem Own.nil (size : Nat) (h : Hp) : Own size (.slice none 0 0) 0 [] h := ⟨by simp, .inl ⟨rfl, none, rfl⟩⟩

theorem Own.cells {size : Nat} {v : Value} {n : Nat} {xs : List Value} {h : Hp} (H : Own size v n xs h) : Cells size v n xs h := by
  obtain ⟨hl, H⟩ := H
  rcases H with ⟨rfl, ao, rfl⟩ | ⟨g, off, cap, cur, e, fr, rfl, h1, h2, h3, h4, h5, h6⟩
  · exact ⟨hl, ao, 0, rfl, Nat.le_refl _, by simp, fun _ => rfl, fun h => absurd h (Nat.lt_irrefl _)⟩
  · refine ⟨hl, _, cap, rfl, h1, h2, fun h => (by cases h), fun _ => ⟨g, off, rfl, ?_⟩⟩
    intro j u hj
    unfold cellH
    rw [h6]
    simp only [List.getElem?_toArray]
    rw [← h4] at hj
    rw [List.getElem?_take] at hj
    split at hj
    · rw [List.getElem?_drop] at hj; exact hj
    · cases hj

theorem On.cells {W0 w : World} {L : List HProp} (H : On W0 L w) (i : Nat) {size : Nat} {v : Value} {n : Nat} {xs : List Value} (hi : L[i]? = some (Own size v n xs)) : Cells size v n xs (hp w) :=
  (H.get i hi (Own_mono _ _ _ _)).cells

theorem Gives.own {L : List HProp} {size : Nat} {v : Value} {n : Nat} {xs : List Value} : Gives (Own size v n xs :: L) (Cells size v n xs) := Gives.head (Cells_mono _ _ _ _) fun _ => Own.cells
/-- What an assertion anywhere in a list gives. -/
theorem Gives.at {L : List HProp} {A B : HProp} (i : Nat) (hi : L[i]? = some B) (m : Mono A) (f : ∀ h, B h → A h) : Gives L A := fun h H => by
  obtain ⟨h1, s, b⟩ := (H.pull i hi).fact
  exact m _ _ s (f _ b)
theorem Gives.ownAt {L : List HProp} (i : Nat) {size : Nat} {v : Value} {n : Nat} {xs : List Value} (hi : L[i]? = some (Own size v n xs)) : Gives L (Cells size v n xs) := Gives.at i hi (Cells_mono _ _ _ _) fun _ => Own.cells

/-- A cell of a slice that is read. -/
theorem Cells.cell {w : World} {size : Nat} {v : Value} {n : Nat} {xs : List Value} (H : Cells size v n xs (hp w)) {b o c : Nat} (hv : v = .slice (some ⟨b, o, none⟩) n c) (hn : 0 < n) {j : Nat} {u : Value} (hj : xs[j]? = some u) :
    w.cell? ⟨b, o + j, none⟩ = some u := by
  obtain ⟨hl, ao, cap, hv', h1, h2, h3, h4⟩ := H
  obtain ⟨b', o', rfl, r⟩ := h4 hn
  rw [hv] at hv'
  simp only [Value.slice.injEq, Option.some.injEq, Addr.mk.injEq] at hv'
  obtain ⟨⟨rfl, rfl, _⟩, _, _⟩ := hv'
  rw [← cellH_hp]
  exact r j u hj
end Go.Sl
