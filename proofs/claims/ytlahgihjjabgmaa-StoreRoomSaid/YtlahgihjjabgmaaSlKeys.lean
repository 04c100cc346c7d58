/-
  Maps keyed by integers as the kit's library reads them; what the library hands back, as assertions. No program is named here.
-/
import Derived.Test.YtlahgihjjabgmaaSlB
import Derived.Lib.SlKeysI
import Derived.Maps.Own
import Derived.OwnWalk
import Derived.RangeFuncSeq
namespace Go.Sl
open Go Go.MapKept Go.Maps
open Go.WideElems (Fit rd rg pl rd_val elemAt)
set_option linter.unusedVariables false
/-- Any value, read as nothing. -/
def rdAny {H : Type} (v : Value) : Option (DataW H × List MemPlace) := some (.nil, [])
theorem perm_insert {H : Type} (x : Lit × DataW H) : ∀ l : List (Lit × DataW H), (DataW.insert x l).Perm (x :: l)
  | [] => List.Perm.refl _
  | y :: l => by
    unfold DataW.insert
    split
    · exact List.Perm.refl _
    · exact ((perm_insert x l).cons y).trans (List.Perm.swap ..)
theorem perm_foldr {H : Type} : ∀ l : List (Lit × DataW H), (l.foldr DataW.insert []).Perm l
  | [] => List.Perm.refl _
  | x :: l => by
    rw [List.foldr_cons]
    exact (perm_insert x _).trans ((perm_foldr l).cons x)
section
variable {P : Program} {w w' W0 : World} {L : List HProp}
theorem ownsMap_ints {kT b : Nat} {kvs : List KV} {ck : Nat} (hk : P.underlying kT = some (.int .i64)) (hf : fitM kvs ck) (hr : ∀ x ∈ kvs, (Lit.int .i64 x.1).wf = true) (hl : kvs.length ≤ maxLen) (hb : w.heap[b]? = some (mapO .i64 kvs ck)) :
    ∃ D0 : DataW Unit, w.ownsMap P kT rdAny b kvs.length D0 ∧ (intKeys D0).Perm (kvs.map (·.1)) ∧ Maps.size D0 = kvs.length := by
  have key : ∀ x ∈ kvs, keyOf P kT (.int .i64 x.1) = some (.int .i64 x.1) := fun x hx => by
    unfold keyOf
    rw [hk]
    simp only [mapKey, hk]
    simp [hr x hx]
  have hrd : ∀ x ∈ kvs, rd P kT (rdAny (H := Unit)) (ent .i64 x) = some (.int .i64 x.1, .nil) := fun x hx => by
    unfold rd
    show (keyOf P kT (.int .i64 x.1)).bind _ = _
    rw [key x hx]; rfl
  have hrg : ((kvs.map (ent .i64)).map (rg P kT (rdAny (H := Unit)))) = kvs.map fun x => (Lit.int .i64 x.1, (DataW.nil : DataW Unit)) := by
    rw [List.map_map]
    refine List.map_congr_left fun x hx => ?_
    show rg P kT rdAny (ent .i64 x) = _
    unfold rg
    rw [hrd x hx]; rfl
  refine ⟨_, ⟨(kvs.map (ent .i64)).toArray, ck, hb, ⟨by simpa using hl, ⟨?_, ?_, ?_⟩, ?_⟩, by simp, rfl⟩, ?_, ?_⟩
  · intro x hx
    simp at hx
    obtain ⟨a, b, c, hx, rfl⟩ := hx
    exact hf.2.2 _ hx
  · have : ((kvs.map (ent .i64)).toArray.toList.map (·.born)) = kvs.map (·.2.2) := by simp [Function.comp_def, ent]
    rw [this]; exact hf.2.1
  · have e : ((kvs.map (ent .i64)).toArray.toList.map (·.key)) = (kvs.map (·.1)).map (Value.int .i64) := by simp [Function.comp_def, ent]
    rw [e]
    exact List.Pairwise.map _ (fun a b h => by simpa using h) hf.1
  · intro x hx
    simp at hx
    obtain ⟨a, b, c, hx, rfl⟩ := hx
    exact ⟨_, hrd _ hx⟩
  · show ((((kvs.map (ent .i64)).toArray.toList.map (rg P kT rdAny)).foldr DataW.insert []).map fun p => intOf p.1).Perm _
    refine ((perm_foldr _).map _).trans ?_
    rw [hrg, List.map_map]
    exact List.Perm.refl _
  · show (((kvs.map (ent .i64)).toArray.toList.map (rg P kT rdAny)).foldr DataW.insert []).length = _
    rw [(perm_foldr _).length_eq]
    simp
/-- What lay stays. -/
theorem On.stays (H : On W0 L w) (hb : RowKit.Below w.heap.size w w') : On W0 L w' := by
  refine ⟨hb.os.trans H.os, hb.output.trans H.output, hb.tape.trans H.tape, Nat.le_trans H.size hb.size, H.sat.mono fun b o e => ?_⟩
  have hlt : b < w.heap.size := (Array.getElem?_eq_some_iff.1 e).1
  show w'.heap[b]? = some o
  rw [hb.block b hlt]; exact e
/-- A new row of the library's. -/
theorem On.newRow (H : On W0 L w) (hb : RowKit.Below w.heap.size w w') {e size n : Nat} {v : Value} {xs : List Value} (ho : w'.ownsRow w.heap.size e size v n xs) : On W0 (Own size v n xs :: L) w' := by
  obtain ⟨hl, ho⟩ := ho
  have H' := H.stays hb
  rcases ho with ⟨rfl, rfl⟩ | ⟨g, cap, cur, rfl, hg, hgb, h1, h2, h3, h4⟩
  · exact ⟨H'.os, H'.output, H'.tape, H'.size, ⟨fun _ => none, hp w', (fun _ _ _ e _ => by cases e), (fun _ _ e => by cases e), Sub.refl _, ⟨hl, .inl ⟨rfl, none, rfl⟩⟩, H'.sat⟩⟩
  · have hk : On W0 (blk g cur.toList e (0, 0) :: L) w' := by
      refine ⟨H'.os, H'.output, H'.tape, H'.size, ⟨fun x => if x = g then some (obj cur.toList e (0, 0)) else none, hp w, ?_, ?_, ?_, by simp [pts], H.sat⟩⟩
      · intro x u u' e1 e2
        have hx : x = g := by by_cases hx : x = g; exact hx; simp [hx] at e1
        subst hx
        have : x < w.heap.size := (Array.getElem?_eq_some_iff.1 e2).1
        omega
      · intro x u e1
        have hx : x = g := by by_cases hx : x = g; exact hx; simp [hx] at e1
        subst hx
        simp at e1
        show w'.heap[x]? = some u
        rw [hgb, ← e1]
      · intro x u e1
        have hlt : x < w.heap.size := (Array.getElem?_eq_some_iff.1 e1).1
        show w'.heap[x]? = some u
        rw [hb.block x hlt]; exact e1
    exact Own.closeOn hk hl h1 h2 (by simp; omega) (by simpa using h4) (.inl rfl)
end
end Go.Sl
