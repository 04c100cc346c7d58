/-
  What a call's arguments read as where it begins: of whatever type, out of the reading that the statement gives.
-/
import Derived.Test.YtlahgihjjabgmaaSlMisc
import Derived.Deep.Slices
import Derived.ChangeArms
namespace Go.Sl
open Go
variable {P : Program} {W : World}

/-- Whatever of type 'e' is read begins with cells of this kind. -/
def Rd (P : Program) (W : World) (e : TypeId) (R : List Value → Prop) : Prop :=
  ∀ (H : Type) (enc : TypeId × Value → H) (n : Nat) (cs : List Value) (x : DataW H × List MemPlace), DataW.trod enc P W 0 (fun _ => true) true n e cs = some x → R cs
theorem Rd.mono {e : TypeId} {R R' : List Value → Prop} (h : Rd P W e R) (i : ∀ cs, R cs → R' cs) : Rd P W e R' := fun H enc n cs x t => i _ (h H enc n cs x t)
theorem Rd.use {e : TypeId} {R : List Value → Prop} (h : Rd P W e R) {H : Type} {enc : TypeId × Value → H} {v : Value} {d : DataW H} {ps : List MemPlace}
    (t : DataW.Trod enc P W 0 (fun _ => true) true e v d ps) : R v.cells.toList := by
  obtain ⟨n, t⟩ := t
  exact h H enc n _ _ t
theorem rd_int {t : TypeId} {k : IntKind} (ht : P.underlying t = some (.int k)) : Rd P W t (fun cs => ∃ z, cs = [.int k z] ∧ (Lit.int k z).wf = true) := fun H enc n cs x h => by
  obtain ⟨z, h1, _, h2⟩ := DataW.trod_int ht h
  exact ⟨z, h1, h2⟩
theorem rd_bool {t : TypeId} (ht : P.underlying t = some .bool) : Rd P W t (fun cs => ∃ b, cs = [.bool b]) := fun H enc n cs x h => by
  obtain ⟨z, h1, _⟩ := DataW.trod_bool ht h
  exact ⟨z, h1⟩
theorem rd_string {t : TypeId} (ht : P.underlying t = some .string) : Rd P W t (fun cs => ∃ s : ByteArray, cs = [.string s] ∧ s.size ≤ maxLen) := fun H enc n cs x h => by
  obtain ⟨z, h1, _, h2⟩ := DataW.trod_string ht h
  exact ⟨z, h1, h2⟩
theorem flatten_get {s : Nat} {rows : List (List Value)} (hr : ∀ r ∈ rows, r.length = s) (j : Nat) (u : Value) (h : rows.flatten[j]? = some u) :
    ∃ i k r, j = i * s + k ∧ k < s ∧ rows[i]? = some r ∧ r[k]? = some u := by
  induction rows generalizing j with
  | nil => simp at h
  | cons r rows ih =>
    have hl : r.length = s := hr r (by simp)
    rw [List.flatten_cons] at h
    rcases Nat.lt_or_ge j s with hj | hj
    · rw [List.getElem?_append_left (by omega)] at h
      exact ⟨0, j, r, by omega, hj, rfl, h⟩
    · rw [List.getElem?_append_right (by omega), hl] at h
      obtain ⟨i, k, q, h1, h2, h3, h4⟩ := ih (fun r m => hr r (by simp [m])) (j - s) h
      exact ⟨i + 1, k, q, by rw [Nat.add_mul]; omega, h2, by simpa using h3, h4⟩
theorem flatten_length {s : Nat} {rows : List (List Value)} (hr : ∀ r ∈ rows, r.length = s) : rows.flatten.length = rows.length * s := by
  induction rows with
  | nil => simp
  | cons r rows ih =>
    rw [List.flatten_cons, List.length_append, ih (fun r m => hr r (by simp [m])), hr r (by simp), List.length_cons, Nat.add_mul]; omega
theorem rd_slice {t e : TypeId} {s : Nat} {R : List Value → Prop} (ht : P.underlying t = some (.slice e)) (hc : P.cellsOf e = s) (hs : 0 < s) (he : Rd P W e R) :
    Rd P W t (fun cs => ∃ a c, ∃ rows : List (List Value), cs = [.slice a rows.length c] ∧ (∀ r ∈ rows, r.length = s ∧ R r) ∧ Cells s (.slice a rows.length c) rows.length rows.flatten (hp W)) := fun H enc n cs x h => by
  rcases Deep.open_slice ht h with ⟨rfl, _⟩ | ⟨a, len, cap, m, n, D, Pl, rfl, hb, hl, hm, hmm, _, hx⟩
  · exact ⟨none, 0, [], rfl, by simp, by simp, none, 0, rfl, by simp, by simp [maxLen], fun _ => rfl, by simp⟩
  · rw [hc] at hx
    have hlm : len ≤ m := by simp at hmm; omega
    obtain ⟨f, hf⟩ := Deep.choose_lt (n := len) (p := fun i cs' => W.cells? 0 (a.add (i * s)) s = some cs' ∧ DataW.trod enc P W 0 (fun _ => true) true n e cs' = some (D i, Pl i)) (fun i hi => hx i (by omega))
    have hrow : ∀ r ∈ (List.range len).map f, r.length = s ∧ R r := by
      intro r hr
      obtain ⟨i, hi, rfl⟩ := List.mem_map.1 hr
      have := hf i (by simpa using hi)
      exact ⟨(World.cells?_some this.1).2.1, he H enc n _ _ this.2⟩
    have hlen : ((List.range len).map f).length = len := by simp
    refine ⟨some a, cap, (List.range len).map f, by rw [hlen], hrow, ?_⟩
    rw [hlen]
    refine ⟨by rw [flatten_length (fun r h => (hrow r h).1), hlen], some a, cap, rfl, hl, hm, by simp, fun hpos => ?_⟩
    obtain ⟨b, o, spot⟩ := a
    have h0 := World.cells?_some (hf 0 hpos).1
    have hc0 := h0.2.2 0 hs
    obtain ⟨v0, hv0⟩ : ∃ v, (f 0)[0]? = some v := ⟨(f 0)[0]'(by omega), by simp⟩
    rw [hv0] at hc0
    have hspot : spot = none := by
      have := World.cell?_spot hc0
      simpa [Addr.add] using this
    subst hspot
    refine ⟨b, o, rfl, fun j u hj => ?_⟩
    obtain ⟨i, k, r, rfl, hk, hri, hrk⟩ := flatten_get (fun r h => (hrow r h).1) j u hj
    have hi : i < len := by
      have := (List.getElem?_eq_some_iff.1 hri).1
      simpa using this
    have hri' : f i = r := by
      rw [List.getElem?_map, List.getElem?_range hi] at hri
      simpa using hri
    subst hri'
    have h2 := (World.cells?_some (hf i hi).1).2.2 k hk
    rw [hrk, Deep.add_add] at h2
    rw [cellH_hp]
    rw [← h2]
    congr 1
    unfold Addr.add
    split <;> simp_all
theorem exists_map {α : Type} {Q : α → Prop} {f : α → List Value} {R : List Value → Prop} {rows : List (List Value)} (h : ∀ r ∈ rows, R r) (i : ∀ r, R r → ∃ a, r = f a ∧ Q a) : ∃ l : List α, rows = l.map f ∧ ∀ a ∈ l, Q a := by
  induction rows with
  | nil => exact ⟨[], rfl, by simp⟩
  | cons r rows ih =>
    obtain ⟨l, rfl, hl⟩ := ih (fun r m => h r (by simp [m]))
    obtain ⟨a, rfl, ha⟩ := i r (h r (by simp))
    exact ⟨a :: l, rfl, by simpa using ⟨ha, hl⟩⟩
/-- A slice whose elements have a form. -/
theorem rd_sliceOf {α : Type} {t e : TypeId} {s : Nat} {Q : α → Prop} {f : α → List Value} (ht : P.underlying t = some (.slice e)) (hc : P.cellsOf e = s) (hs : 0 < s) (he : Rd P W e (fun cs => ∃ a, cs = f a ∧ Q a)) :
    Rd P W t (fun cs => ∃ a c, ∃ l : List α, cs = [.slice a l.length c] ∧ (∀ x ∈ l, Q x) ∧ Cells s (.slice a l.length c) l.length (l.flatMap f) (hp W)) :=
  (rd_slice ht hc hs he).mono fun cs ⟨a, c, rows, hcs, hr, hC⟩ => by
    obtain ⟨l, rfl, hl⟩ := exists_map (Q := Q) (f := f) (R := fun r => r.length = s ∧ ∃ a, r = f a ∧ Q a) hr (fun r ⟨_, h⟩ => h)
    exact ⟨a, c, l, by simpa using hcs, hl, by simpa [List.flatMap_def] using hC⟩
theorem flatMap_single {α : Type} (g : α → Value) (l : List α) : (l.flatMap fun a => [g a]) = l.map g := by
  induction l with
  | nil => rfl
  | cons x l ih => simp [List.flatMap_cons, ih]
theorem rd_bytes {t e : TypeId} (ht : P.underlying t = some (.slice e)) (he : P.underlying e = some (.int .u8)) (hc : P.cellsOf e = 1) :
    Rd P W t (fun cs => ∃ a c, ∃ bs : List UInt8, cs = [.slice a bs.length c] ∧ Bytes (.slice a bs.length c) bs (hp W)) :=
  (rd_sliceOf (α := UInt8) (Q := fun _ => True) (f := fun b => [.int .u8 (b.toNat : Int)]) ht hc (by omega) ((rd_int he).mono fun cs ⟨z, h1, h2⟩ => by
    have h3 : 0 ≤ z ∧ z < 256 := by simp [Lit.wf] at h2; have e1 : IntKind.u8.min = 0 := rfl; have e2 : IntKind.u8.max = 255 := rfl; omega
    refine ⟨UInt8.ofNat z.toNat, ?_, trivial⟩
    rw [h1]
    have : (UInt8.ofNat z.toNat).toNat = z.toNat := by simp [UInt8.toNat_ofNat']; omega
    rw [this, Int.toNat_of_nonneg h3.1])).mono fun cs ⟨a, c, l, h1, _, h3⟩ => ⟨a, c, l, h1, by rw [flatMap_single] at h3; exact h3⟩
/-- A struct's fields, by their places. -/
theorem rd_struct {t : TypeId} {fs : Array Field} (ht : P.underlying t = some (.struct fs)) {R : Field → List Value → Prop} (hR : ∀ f ∈ fs.toList, Rd P W f.type (R f)) :
    Rd P W t (fun cs => cs.length = P.cellsOf t ∧ ∀ f ∈ fs.toList, R f ((cs.drop f.offset).take (P.cellsOf f.type))) := fun H enc n cs x h => by
  obtain ⟨xs, n, _, _, h1, h2, h3⟩ := DataW.trod_struct ht h
  refine ⟨h1, fun f hf => ?_⟩
  obtain ⟨i, hi⟩ := List.getElem?_of_mem hf
  have hi' : fs[i]? = some f := by simpa using hi
  have := h3 i f hi'
  have hlt : i < xs.length := by
    have := (Array.getElem?_eq_some_iff.1 hi').1
    omega
  rw [List.getElem?_eq_getElem hlt] at this
  exact hR f hf H enc n _ _ this
/-- Fields and what each reads as. -/
def RdAll (P : Program) (W : World) : List Field → List (List Value → Prop) → Prop
  | [], [] => True
  | f :: fs, R :: Rs => Rd P W f.type R ∧ RdAll P W fs Rs
  | _, _ => False
def AtAll (P : Program) (cs : List Value) : List Field → List (List Value → Prop) → Prop
  | f :: fs, R :: Rs => R ((cs.drop f.offset).take (P.cellsOf f.type)) ∧ AtAll P cs fs Rs
  | _, _ => True
theorem rd_fields {t : TypeId} {fs : Array Field} {Rs : List (List Value → Prop)} (ht : P.underlying t = some (.struct fs)) (hR : RdAll P W fs.toList Rs) :
    Rd P W t (fun cs => cs.length = P.cellsOf t ∧ AtAll P cs fs.toList Rs) := fun H enc n cs x h => by
  obtain ⟨xs, n, _, _, h1, h2, h3⟩ := DataW.trod_struct ht h
  refine ⟨h1, ?_⟩
  have key : ∀ f ∈ fs.toList, ∃ y, DataW.trod enc P W 0 (fun _ => true) true n f.type ((cs.drop f.offset).take (P.cellsOf f.type)) = some y := by
    intro f hf
    obtain ⟨i, hi⟩ := List.getElem?_of_mem hf
    have hi' : fs[i]? = some f := by simpa using hi
    have := h3 i f hi'
    have hlt : i < xs.length := by
      have := (Array.getElem?_eq_some_iff.1 hi').1
      omega
    rw [List.getElem?_eq_getElem hlt] at this
    exact ⟨_, this⟩
  generalize fs.toList = l at hR key
  clear h3 h2 ht h
  induction l generalizing Rs with
  | nil => cases Rs <;> trivial
  | cons f l ih =>
    cases Rs with
    | nil => trivial
    | cons R Rs =>
      obtain ⟨y, hy⟩ := key f (by simp)
      exact ⟨hR.1 H enc n _ y hy, ih hR.2 (fun f hf => key f (by simp [hf]))⟩
end Go.Sl
