/-
  What one unit did, told as it was, or with one thing turned. No program is named here.
-/
import Derived.Test.YtdpakoefdpmebaaGreatTraceM
namespace Go.Sl.TrM
open Go Go.Sl Go.Sl.BitM Go.Sl.SpM Go.Sl.RsM Go.Sl.ByM Go.Sl.UnM
set_option linter.unusedVariables false
set_option linter.unusedSectionVars false
/-! ### Rows of cells -/
theorem fm_set {α : Type} {f : α → List Value} {s : Nat} (hf : ∀ x, (f x).length = s) {v : Value} {x x' : α} : ∀ {l : List α} {k j : Nat}, l[k]? = some x → j < s → f x' = (f x).set j v → (l.flatMap f).set (k * s + j) v = (l.set k x').flatMap f
  | [], k, j, h, _, _ => by simp at h
  | y :: l, 0, j, h, hj, e => by
    simp at h
    subst h
    rw [List.flatMap_cons, List.set_append_left _ _ (by rw [hf]; omega), Nat.zero_mul, Nat.zero_add, ← e, List.set_cons_zero, List.flatMap_cons]
  | y :: l, k + 1, j, h, hj, e => by
    rw [List.flatMap_cons, List.set_append_right _ _ (by rw [hf, Nat.add_mul]; omega), hf, show (k + 1) * s + j - s = k * s + j by rw [Nat.add_mul]; omega, fm_set hf (by simpa using h) hj e, List.set_cons_succ, List.flatMap_cons]
theorem fm_snoc {α : Type} {f : α → List Value} {l : List α} {x : α} : l.flatMap f ++ f x = (l ++ [x]).flatMap f := by simp
/-! ### Finding -/
section
variable {α : Type} {nm : α → Nm} {l : List α} {p : Nm} {x : α} {i : Nat}
theorem findN_at (hx : l[i]? = some x) (hn : nm x = p) (hu : ∀ (j : Nat) (y : α), j < i → l[j]? = some y → nm y ≠ p) : findN nm l p = some x := by
  induction l generalizing i with
  | nil => simp at hx
  | cons y l ih =>
    rw [findN_cons]
    cases i with
    | zero =>
      simp at hx
      subst hx
      rw [if_pos hn.symm]
    | succ i =>
      rw [if_neg (fun e => hu 0 y (by omega) (by simp) e.symm)]
      exact ih (by simpa using hx) (fun j z hj hz => hu (j + 1) z (by omega) (by simpa using hz))
theorem not_mem_nm (hu : ∀ (j : Nat) (y : α), l[j]? = some y → nm y ≠ p) : p ∉ l.map nm := fun hm => by
  obtain ⟨y, hy, e⟩ := List.mem_map.1 hm
  obtain ⟨j, hj⟩ := List.getElem?_of_mem hy
  exact hu j y hj e
theorem not_mem_take (hu : ∀ (j : Nat) (y : α), j < i → l[j]? = some y → nm y ≠ p) : p ∉ (l.take i).map nm := not_mem_nm fun j y hj => by
  rw [List.getElem?_take] at hj
  split at hj
  · rename_i hlt; exact hu j y hlt hj
  · cases hj
theorem nodup_at (hu : ∀ (i j : Nat) (x y : α), l[i]? = some x → l[j]? = some y → nm x = nm y → i = j) : (l.map nm).Nodup := by
  induction l with
  | nil => exact List.nodup_nil
  | cons x l ih =>
    rw [List.map_cons, List.nodup_cons]
    refine ⟨not_mem_nm fun j y hj e => ?_, ih fun i j x y hi hj e => ?_⟩
    · have := hu (j + 1) 0 y x (by simpa using hj) (by simp) e
      omega
    · have := hu (i + 1) (j + 1) x y (by simpa using hi) (by simpa using hj) e
      omega
end
/-! ### Steps -/
theorem rowM_run {ins : List InX} {row : List CoX} : ∀ {r : Nat}, (∀ i, i < r → ∃ c, row[i]? = some c ∧ okC ins (row.take i) c = 0) → rowM ins row [] = rowM ins (row.drop r) (row.take r)
  | 0, _ => by rw [List.drop_zero, List.take_zero]
  | r + 1, h => by
    obtain ⟨c, hc, h0⟩ := h r (by omega)
    rw [rowM_run (r := r) (fun i hi => h i (by omega)), rowM_step hc h0]
theorem outM_run {row : List CoX} {out : List OuX} : ∀ {r : Nat}, (∀ i, i < r → ∃ o, out[i]? = some o ∧ okO row (out.take i) o = 0) → outM row out [] = outM row (out.drop r) (out.take r)
  | 0, _ => by rw [List.drop_zero, List.take_zero]
  | r + 1, h => by
    obtain ⟨c, hc, h0⟩ := h r (by omega)
    rw [outM_run (r := r) (fun i hi => h i (by omega)), outM_step hc h0]
theorem sameM_run {row : List CoX} {rs : List Rp} {out : List OuX} : ∀ {r : Nat}, (∀ i, i < r → ∃ o, out[i]? = some o ∧ o.rp = rs.getD (idxC row o.nm) (plain 0 0 0)) → sameM row rs out 0 = sameM row rs (out.drop r) r
  | 0, _ => by rw [List.drop_zero]
  | r + 1, h => by
    obtain ⟨c, hc, h0⟩ := h r (by omega)
    rw [sameM_run (r := r) (fun i hi => h i (by omega)), sameM_step hc h0]
theorem rowM_end {ins : List InX} {row : List CoX} {r : Nat} (hr : r = row.length) : rowM ins (row.drop r) (row.take r) = (0, 0) := by subst hr; rw [List.drop_length, rowM]
theorem outM_end {row : List CoX} {out : List OuX} {r : Nat} (hr : r = out.length) : outM row (out.drop r) (out.take r) = (0, 0) := by subst hr; rw [List.drop_length, outM]
theorem sameM_end {row : List CoX} {rs : List Rp} {out : List OuX} {r : Nat} (hr : r = out.length) : sameM row rs (out.drop r) r = (0, 0) := by subst hr; rw [List.drop_length, sameM]
/-! ### What one unit did -/
def zCm : CmX := ⟨0, 0, 0, none, 0, [], 0, 0, 0, false⟩
def cmX (l : List CmX) (i : Nat) : CmX := (l[i]?).getD zCm
def unA (l : List CmX) (H : Nat → Int) : Nat → Un
  | 0 => newU 16
  | k + 1 => (doM (unA l H k) (H k) (cmX l k).cm).1
def rpA (l : List CmX) (H : Nat → Int) (k : Nat) : Rp := (doM (unA l H k) (H k) (cmX l k).cm).2
/-- All that was asked. -/
def isIns (l : List CmX) (H A : Nat → Int) (n : Nat) (ins : List InX) : Prop := ins.length = n ∧ ∀ i, i < n → ins[i]? = some ⟨H i, ((i + 1 : Nat) : Int), cmX l i, A i⟩
def isRow (H B : Nat → Int) (r : Nat) (row : List CoX) : Prop := row.length = r ∧ ∀ i, i < r → row[i]? = some ⟨H i, ((i + 1 : Nat) : Int), B i⟩
def isOut (l : List CmX) (H C : Nat → Int) (m : Nat) (out : List OuX) : Prop := out.length = m ∧ ∀ i, i < m → ∃ o, out[i]? = some o ∧ o.h = H i ∧ o.id = ((i + 1 : Nat) : Int) ∧ o.at_ = C i ∧ o.rp = rpA l H i
section
variable {l : List CmX} {H A B C : Nat → Int} {n r m i k : Nat} {ins : List InX} {row : List CoX} {out : List OuX} {c : CoX} {o : OuX}
theorem get_lt {α : Type} {l : List α} {j : Nat} {y : α} (h : l[j]? = some y) : j < l.length := (List.getElem?_eq_some_iff.1 h).1
theorem ins_nodup (hI : isIns l H A n ins) : (ins.map InX.nm).Nodup := nodup_at fun i j x y hi hj e => by
  have h1 := hI.2 i (by rw [← hI.1]; exact get_lt hi)
  have h2 := hI.2 j (by rw [← hI.1]; exact get_lt hj)
  rw [hi] at h1
  rw [hj] at h2
  cases h1
  cases h2
  have h5 : ((i + 1 : Nat) : Int) = ((j + 1 : Nat) : Int) := (Prod.mk.inj e).2
  omega
theorem ins_find (hI : isIns l H A n ins) (hi : i < n) (hc : c.nm = (H i, ((i + 1 : Nat) : Int))) : findN InX.nm ins c.nm = some ⟨H i, ((i + 1 : Nat) : Int), cmX l i, A i⟩ :=
  findN_at (hI.2 i hi) hc.symm fun j y hj hy e => by
    have h2 := hI.2 j (by omega)
    rw [hy] at h2
    cases h2
    rw [hc] at e
    have h5 : ((j + 1 : Nat) : Int) = ((i + 1 : Nat) : Int) := (Prod.mk.inj e).2
    omega
/-- A commit in its place is fine. -/
theorem okC_at (hI : isIns l H A n ins) (hR : isRow H B r row) (hi : i < r) (hrn : r ≤ n) (hB : ∀ j, j + 1 < r → B j ≤ B (j + 1)) (hAB : ∀ j, j < r → A j ≤ B j) :
    okC ins (row.take i) ⟨H i, ((i + 1 : Nat) : Int), B i⟩ = 0 :=
  okC_good (ins_find hI (i := i) (by omega) rfl) (by
    rintro (h | ⟨h1, h2⟩ | h)
    · refine not_mem_take (fun j y hj hy e => ?_) h
      have h3 := hR.2 j (by omega)
      rw [hy] at h3
      cases h3
      have h5 : ((j + 1 : Nat) : Int) = ((i + 1 : Nat) : Int) := (Prod.mk.inj e).2
      omega
    · have hl := take_len (l := row) (k := i) (by have := hR.1; omega)
      have hip : 0 < i := by omega
      have hlast : lastAt (row.take i) = B (i - 1) := by
        obtain ⟨q, rfl⟩ : ∃ q, i = q + 1 := ⟨i - 1, by omega⟩
        rw [take_snoc (hR.2 q (by omega)), lastAt_snoc]
        rfl
      rw [hlast] at h2
      have h3 := hB (i - 1) (by omega)
      have h4 : i - 1 + 1 = i := by omega
      rw [h4] at h3
      exact absurd h2 (by show ¬ B i < B (i - 1); omega)
    · have := hAB i hi
      exact absurd h (by show ¬ B i < A i; omega))
theorem row_run (hI : isIns l H A n ins) (hR : isRow H B r row) (hrn : r ≤ n) (hB : ∀ j, j + 1 < r → B j ≤ B (j + 1)) (hAB : ∀ j, j < r → A j ≤ B j) : rowM ins row [] = (0, 0) := by
  rw [rowM_run (r := r) fun i hi => ⟨_, hR.2 i hi, okC_at hI hR hi hrn hB hAB⟩, rowM_end hR.1.symm]
theorem row_find (hR : isRow H B r row) (hi : i < r) (ho : o.nm = (H i, ((i + 1 : Nat) : Int))) : findN CoX.nm row o.nm = some ⟨H i, ((i + 1 : Nat) : Int), B i⟩ :=
  findN_at (hR.2 i hi) ho.symm fun j y hj hy e => by
    have h2 := hR.2 j (by omega)
    rw [hy] at h2
    cases h2
    rw [ho] at e
    have h5 : ((j + 1 : Nat) : Int) = ((i + 1 : Nat) : Int) := (Prod.mk.inj e).2
    omega
theorem okO_at (hR : isRow H B r row) (hO : isOut l H C m out) (hi : i < m) (him : i < r) (hBC : B i ≤ C i) {o : OuX} (ho : out[i]? = some o) : okO row (out.take i) o = 0 := by
  obtain ⟨o', ho', e1, e2, e3, _⟩ := hO.2 i hi
  rw [ho] at ho'
  cases ho'
  refine okO_good (row_find hR him (by unfold OuX.nm; rw [e1, e2])) ?_
  rintro (h | h)
  · refine not_mem_take (fun j y hj hy e => ?_) h
    obtain ⟨y', hy', f1, f2, _⟩ := hO.2 j (by omega)
    rw [hy] at hy'
    cases hy'
    have h5 : y.id = o.id := (Prod.mk.inj e).2
    omega
  · exact absurd h (by show ¬ o.at_ < B i; omega)
theorem out_run (hR : isRow H B r row) (hO : isOut l H C m out) (hm : k ≤ m) (hkr : k ≤ r) (hBC : ∀ j, j < k → B j ≤ C j) : outM row out [] = outM row (out.drop k) (out.take k) :=
  outM_run fun i hi => by
    obtain ⟨o, ho, _⟩ := hO.2 i (by omega)
    exact ⟨o, ho, okO_at hR hO (by omega) (by omega) (hBC i hi) ho⟩
theorem row_nodup (hR : isRow H B r row) : (row.map CoX.nm).Nodup := nodup_at fun i j x y hi hj e => by
  have h1 := hR.2 i (by rw [← hR.1]; exact get_lt hi)
  have h2 := hR.2 j (by rw [← hR.1]; exact get_lt hj)
  rw [hi] at h1
  rw [hj] at h2
  cases h1
  cases h2
  have h5 : ((i + 1 : Nat) : Int) = ((j + 1 : Nat) : Int) := (Prod.mk.inj e).2
  omega
theorem idx_row (hR : isRow H B r row) (hi : i < r) {p : Nm} (hp : p = (H i, ((i + 1 : Nat) : Int))) : idxC row p = i := by
  rw [hp]; exact idx_at (row_nodup hR) (hR.2 i hi)
theorem repl_get (hI : isIns l H A n ins) (hR : isRow H B r row) (hrn : r ≤ n) : ∀ (q i : Nat), i + q = r → ∀ j, j < q → (replL ins (row.drop i) (unA l H i)).getD j (plain 0 0 0) = rpA l H (i + j)
  | 0, i, _, j, hj => by omega
  | q + 1, i, hq, j, hj => by
    have hst : stepL ins (unA l H i) ⟨H i, ((i + 1 : Nat) : Int), B i⟩ = doM (unA l H i) (H i) (cmX l i).cm := by
      unfold stepL cmOf
      rw [ins_find hI (i := i) (by omega) rfl]
      rfl
    rw [replL_step (hR.2 i (by omega)), hst]
    cases j with
    | zero => rfl
    | succ j =>
      have := repl_get hI hR hrn q (i + 1) (by omega) j (by omega)
      rw [show i + 1 + j = i + (j + 1) by omega] at this
      exact this
/-- What is told in its place is what is done again. -/
theorem same_at (hI : isIns l H A n ins) (hR : isRow H B r row) (hrn : r ≤ n) (hi : i < r) {p : Nm} (hp : p = (H i, ((i + 1 : Nat) : Int))) : (replL ins row (newU 16)).getD (idxC row p) (plain 0 0 0) = rpA l H i := by
  rw [idx_row hR hi hp]
  have := repl_get hI hR hrn r 0 (by omega) i hi
  rw [List.drop_zero, Nat.zero_add] at this
  exact this
theorem same_run (hI : isIns l H A n ins) (hR : isRow H B r row) (hrn : r ≤ n) (hO : isOut l H C m out) (hm : k ≤ m) (hkr : k ≤ r) : sameM row (replL ins row (newU 16)) out 0 = sameM row (replL ins row (newU 16)) (out.drop k) k :=
  sameM_run fun i hi => by
    obtain ⟨o, ho, e1, e2, _, e4⟩ := hO.2 i (by omega)
    have h5 := same_at hI hR hrn (i := i) (Nat.lt_of_lt_of_le hi hkr) (p := o.nm) (by unfold OuX.nm; rw [e1, e2])
    exact ⟨o, ho, by rw [h5, e4]⟩
/-- All is fine. -/
theorem check_fine (hI : isIns l H A n ins) (hR : isRow H B r row) (hrn : r ≤ n) (hO : isOut l H C m out) (hmr : m ≤ r) (hB : ∀ j, j + 1 < r → B j ≤ B (j + 1)) (hAB : ∀ j, j < r → A j ≤ B j) (hBC : ∀ j, j < m → B j ≤ C j) : checkM 16 ins row out = (0, 0) := by
  have h1 := row_run hI hR hrn hB hAB
  have h2 : outM row out [] = (0, 0) := by rw [out_run hR hO (Nat.le_refl _) hmr hBC, outM_end hO.1.symm]
  have h3 : orderM ins row out = (0, 0) := by unfold orderM; rw [h1, if_pos rfl, h2]
  unfold checkM
  rw [h3, if_pos rfl, same_run hI hR hrn hO (Nat.le_refl _) hmr, sameM_end hO.1.symm]
/-- Told without its commit. -/
theorem check_untold (hI : isIns l H A n ins) (hR : isRow H B r row) (hrn : r ≤ n) (hO : isOut l H C m out) (hmr : r < m) (hB : ∀ j, j + 1 < r → B j ≤ B (j + 1)) (hAB : ∀ j, j < r → A j ≤ B j) (hBC : ∀ j, j < r → B j ≤ C j) : checkM 16 ins row out = (r, 6) := by
  have h1 := row_run hI hR hrn hB hAB
  obtain ⟨o, ho, e1, e2, _⟩ := hO.2 r hmr
  have hno : okO row (out.take r) o = 6 := okO_none (not_mem_nm fun j y hy e => by
    have hj : j < r := by rw [← hR.1]; exact get_lt hy
    have h2 := hR.2 j hj
    rw [hy] at h2
    cases h2
    have h5 : ((j + 1 : Nat) : Int) = o.id := (Prod.mk.inj e).2
    omega)
  have h2 : outM row out [] = (r, 6) := by rw [out_run hR hO (by omega) (Nat.le_refl _) hBC, outM_stop ho (by rw [hno]; decide), hno]
  have h3 : orderM ins row out = (r, 6) := by unfold orderM; rw [h1, if_pos rfl, h2]
  unfold checkM
  rw [h3, if_neg (show ¬ (6 : Int) = 0 by decide)]
end
theorem isIns_snoc {l : List CmX} {H A : Nat → Int} {k : Nat} {ins : List InX} {x : InX} (hI : isIns l H A k ins) (hx : x = ⟨H k, ((k + 1 : Nat) : Int), cmX l k, A k⟩) : isIns l H A (k + 1) (ins ++ [x]) := by
  subst hx
  refine ⟨by rw [List.length_append, hI.1]; rfl, fun i hi => ?_⟩
  by_cases e : i = k
  · subst e; rw [List.getElem?_append_right (by rw [hI.1]; omega), hI.1, Nat.sub_self]; rfl
  · rw [List.getElem?_append_left (by rw [hI.1]; omega)]; exact hI.2 i (by omega)
theorem isRow_snoc {H B : Nat → Int} {k : Nat} {row : List CoX} {x : CoX} (hR : isRow H B k row) (hx : x = ⟨H k, ((k + 1 : Nat) : Int), B k⟩) : isRow H B (k + 1) (row ++ [x]) := by
  subst hx
  refine ⟨by rw [List.length_append, hR.1]; rfl, fun i hi => ?_⟩
  by_cases e : i = k
  · subst e; rw [List.getElem?_append_right (by rw [hR.1]; omega), hR.1, Nat.sub_self]; rfl
  · rw [List.getElem?_append_left (by rw [hR.1]; omega)]; exact hR.2 i (by omega)
theorem isOut_snoc {l : List CmX} {H C : Nat → Int} {k : Nat} {out : List OuX} {x : OuX} (hO : isOut l H C k out) (e1 : x.h = H k) (e2 : x.id = ((k + 1 : Nat) : Int)) (e3 : x.at_ = C k) (e4 : x.rp = rpA l H k) : isOut l H C (k + 1) (out ++ [x]) := by
  refine ⟨by rw [List.length_append, hO.1]; rfl, fun i hi => ?_⟩
  by_cases e : i = k
  · subst e; exact ⟨x, by rw [List.getElem?_append_right (by rw [hO.1]; omega), hO.1, Nat.sub_self]; rfl, e1, e2, e3, e4⟩
  · obtain ⟨o, ho, h2⟩ := hO.2 i (by omega)
    exact ⟨o, by rw [List.getElem?_append_left (by rw [hO.1]; omega)]; exact ho, h2⟩
theorem isIns_nil {l : List CmX} {H A : Nat → Int} : isIns l H A 0 [] := ⟨rfl, fun i hi => by omega⟩
theorem isRow_nil {H B : Nat → Int} : isRow H B 0 [] := ⟨rfl, fun i hi => by omega⟩
theorem isOut_nil {l : List CmX} {H C : Nat → Int} : isOut l H C 0 [] := ⟨rfl, fun i hi => by omega⟩
theorem ins_of {l : List CmX} {H A : Nat → Int} {n : Nat} {ins : List InX} {x : InX} (hI : isIns l H A n ins) (hx : x ∈ ins) : ∃ i, i < n ∧ x.c = cmX l i := by
  obtain ⟨i, hi⟩ := List.getElem?_of_mem hx
  have hlt := get_lt hi
  rw [hI.1] at hlt
  have h2 := hI.2 i hlt
  rw [hi] at h2
  cases h2
  exact ⟨i, hlt, rfl⟩
theorem cmX_mem {l : List CmX} {i : Nat} (h : i < l.length) : cmX l i ∈ l := by
  unfold cmX
  rw [List.getElem?_eq_getElem h]
  exact List.getElem_mem _
end Go.Sl.TrM
