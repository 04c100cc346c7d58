/-
  Maps keyed by integers: what they hold, looked up, stored into, cleared; a range over one, in whatever order.
-/
import Derived.Test.YtlahgihjjabgmaaSlFunc
import Derived.Maps.RangeRun
namespace Go.Sl
open Go
set_option linter.unusedVariables false
set_option linter.unusedSimpArgs false
/-- One entry: its key, its value, when it was born. -/
abbrev KV := Int × Value × Nat
def ent (kd : IntKind) (x : KV) : MapEntry := { key := .int kd x.1, val := x.2.1, born := x.2.2 }
def mapO (kd : IntKind) (kvs : List KV) (ck : Nat) : Obj := .map (kvs.map (ent kd)).toArray ck
def fitM (kvs : List KV) (ck : Nat) : Prop := (kvs.map (·.1)).Nodup ∧ (kvs.map (·.2.2)).Nodup ∧ ∀ x ∈ kvs, x.2.2 < ck
/-- A map with its clock. -/
def MapC (b : Nat) (kd : IntKind) (kvs : List KV) (ck : Nat) : HProp := fun h => fitM kvs ck ∧ h b = some (mapO kd kvs ck)
def lookM (kvs : List KV) (k : Int) : Option Value := (kvs.find? fun x => x.1 == k).map (·.2.1)
/-- A value stored. -/
def putM (kvs : List KV) (k : Int) (v : Value) (ck : Nat) : List KV := if kvs.any (fun x => x.1 == k) then kvs.map fun x => if x.1 = k then (k, v, x.2.2) else x else kvs ++ [(k, v, ck)]
def clockM (kvs : List KV) (k : Int) (ck : Nat) : Nat := if kvs.any (fun x => x.1 == k) then ck else ck + 1
section
variable {P : Program} {W0 w : World} {L : List HProp} {ρ : Operand → Value} {d : Option Nat} {ty : TypeId} {pos : String} {af : Array Edge} {g : Option (Nat × Bool)}
theorem findNow_ints {q kd : IntKind} {k : Int} : ∀ (kvs : List KV) (i : Nat), Instr.findNow (.int q) (.int kd k) (kvs.map (ent kd)) i = some ((kvs.findIdx? fun x => x.1 == k).bind fun j => (kvs[j]?).map fun x => (i + j, x.2.1)) := by
  intro kvs
  induction kvs with
  | nil => intro i; rfl
  | cons x kvs ih =>
    intro i
    rw [List.map_cons]
    unfold Instr.findNow
    have hs : Instr.sameNow (.int q) (.int kd k) (ent kd x).key = some (k == x.1) := by simp [Instr.sameNow, ent]
    rw [hs]
    by_cases h : k = x.1
    · subst h
      simp [List.findIdx?_cons, ent]
    · have h1 : (k == x.1) = false := by simpa using h
      have h2 : (x.1 == k) = false := by simpa using fun e => h e.symm
      rw [h1]
      simp only
      rw [ih (i + 1), List.findIdx?_cons, h2]
      simp only [Bool.false_eq_true, if_false]
      cases kvs.findIdx? fun x => x.1 == k with
      | none => rfl
      | some j => simp; cases kvs[j]? <;> simp; omega
theorem lookM_idx (kvs : List KV) (k : Int) : lookM kvs k = (kvs.findIdx? fun x => x.1 == k).bind fun j => (kvs[j]?).map (·.2.1) := by
  unfold lookM
  induction kvs with
  | nil => rfl
  | cons x kvs ih =>
    rw [List.find?_cons, List.findIdx?_cons]
    cases h : x.1 == k
    · rw [ih]
      simp only [Bool.false_eq_true, if_false]
      cases kvs.findIdx? fun x => x.1 == k with
      | none => rfl
      | some j => simp
    · simp
theorem On.mapC {b : Nat} {kd : IntKind} {kvs : List KV} {ck : Nat} (H : On W0 (MapC b kd kvs ck :: L) w) : fitM kvs ck ∧ w.heap[b]? = some (mapO kd kvs ck) := by
  obtain ⟨h1, h2, dd, s1, s2, ⟨hf, a⟩, r⟩ := H.sat
  exact ⟨hf, s1 _ _ a⟩
theorem On.mapOpen {b : Nat} {kd : IntKind} {kvs : List KV} {ck : Nat} (H : On W0 (MapC b kd kvs ck :: L) w) : fitM kvs ck ∧ On W0 (pts b (mapO kd kvs ck) :: L) w := by
  obtain ⟨h1, h2, dd, s1, s2, ⟨hf, a⟩, r⟩ := H.sat
  exact ⟨hf, H.os, H.output, H.tape, H.size, h1, h2, dd, s1, s2, a, r⟩
theorem On.mapClose {b : Nat} {kd : IntKind} {kvs : List KV} {ck : Nat} (hf : fitM kvs ck) (H : On W0 (pts b (mapO kd kvs ck) :: L) w) : On W0 (MapC b kd kvs ck :: L) w := H.head fun h a => ⟨hf, a⟩
theorem On.mapSet {b : Nat} {kd : IntKind} {kvs kvs' : List KV} {ck ck' : Nat} (hf : fitM kvs' ck') (H : On W0 (MapC b kd kvs ck :: L) w) : On W0 (MapC b kd kvs' ck' :: L) { w with heap := w.heap.setIfInBounds b (mapO kd kvs' ck') } := by
  obtain ⟨_, H⟩ := H.mapOpen
  have hb := H.block 0 rfl
  have hlt : b < w.heap.size := (Array.getElem?_eq_some_iff.1 hb).1
  refine On.mapClose hf (H.set (w' := { w with heap := w.heap.setIfInBounds b (mapO kd kvs' ck') }) 0 rfl rfl rfl rfl (by simp) ?_ ?_)
  · simp [Array.getElem?_setIfInBounds, hlt]
  · intro k hk
    simp [Array.getElem?_setIfInBounds, Ne.symm hk]
theorem eff_makeMap {t : Nat} {kd : IntKind} (H : On W0 L w) : Eff P ρ ⟨d, .makeMap t none, ty, pos, af, g⟩ w (fun v w' => ∃ b, v = .map (some b) ∧ On W0 (MapC b kd [] 0 :: L) w') := by
  refine .inl ⟨.map (some w.heap.size), w.alloc (.map #[] 0), ?_, _, rfl, On.mapClose ⟨List.nodup_nil, List.nodup_nil, fun x hx => by cases hx⟩ (H.alloc _)⟩
  have hn : (newObj (.map #[] 0)).run P w = .ok w.heap.size (w.alloc (.map #[] 0)) := rfl
  simp [execOp, Instr.makeMap, hn]
theorem checkKey_int {kt : TypeId} {q kd : IntKind} {k : Int} (hK : P.underlying kt = some (.int q)) (e : Bool) (n : Nat) : (Instr.checkKey e (n + 1) kt (.int kd k)).run P w = .ok () w := by
  simp [Instr.checkKey, run_underlying hK]
theorem run_lookupH {t kt et b : Nat} {q kd : IntKind} {k : Int} {x y : Operand} {z : Value} {kvs : List KV} {ck : Nat} (hb : w.heap[b]? = some (mapO kd kvs ck)) (hU : P.underlying t = some (.map kt et)) (hK : P.underlying kt = some (.int q)) (hZ : ∀ w, (zeroValue et).run P w = .ok z w) (hx : ρ x = .map (some b)) (hy : ρ y = .int kd k) :
    (execOp ρ ⟨d, .lookup t x y false, ty, pos, af, g⟩).run P w = .ok (.value ((lookM kvs k).getD z)) w := by
  have hf := findNow_ints (q := q) (kd := kd) (k := k) kvs 0
  have hl := lookM_idx kvs k
  have hgo : (getObj b).run P w = .ok (mapO kd kvs ck) w := MapKept.run_getObj_map (by exact hb)
  unfold mapO at hgo
  rw [hl]
  have hck : ∀ e, (Instr.checkKey e 10000 kt (.int kd k)).run P w = .ok () w := fun e => checkKey_int hK e 9999
  cases hfi : kvs.findIdx? fun x => x.1 == k with
  | none =>
    rw [hfi] at hf
    simp only [Option.bind_none] at hf ⊢
    simp [execOp, Instr.lookup, run_underlying hU, run_underlying hK, hx, hy, hgo, hck, Instr.findKey, hf, hZ]
  | some j =>
    rw [hfi] at hf
    have hj := (List.findIdx?_eq_some_iff_getElem.1 hfi).1
    have hg : kvs[j]? = some kvs[j] := by simp
    simp only [Option.bind_some, hg, Option.map_some] at hf ⊢
    simp [execOp, Instr.lookup, run_underlying hU, run_underlying hK, hx, hy, hgo, hck, Instr.findKey, hf]
theorem run_lookupV {t kt et b : Nat} {q kd : IntKind} {k : Int} {x y : Operand} {z v : Value} {kvs : List KV} {ck : Nat} (hb : w.heap[b]? = some (mapO kd kvs ck)) (hU : P.underlying t = some (.map kt et)) (hK : P.underlying kt = some (.int q)) (hZ : ∀ w, (zeroValue et).run P w = .ok z w) (hx : ρ x = .map (some b)) (hy : ρ y = .int kd k) (hv : (lookM kvs k).getD z = v) :
    (execOp ρ ⟨d, .lookup t x y false, ty, pos, af, g⟩).run P w = .ok (.value v) w := by rw [← hv]; exact run_lookupH hb hU hK hZ hx hy
theorem run_insKey {kd : IntKind} {k : Int} : (Instr.keyThatStays (.int kd k) (.int kd k)).run P w = .ok (.int kd k) w := by
  have h : ∀ n, Instr.sameBits n (.int kd k) (.int kd k) = true := fun n => by cases n <;> simp [Instr.sameBits]
  unfold Instr.keyThatStays
  rw [if_pos (h 10000)]
  rfl
theorem put_modify {kd : IntKind} {k : Int} {v : Value} {kvs : List KV} {j : Nat} (hn : (kvs.map (·.1)).Nodup) (hj : (kvs.findIdx? fun x => x.1 == k) = some j) (ck : Nat) :
    ((kvs.map (ent kd)).toArray.modify j fun e => { e with key := .int kd k, val := v }) = ((putM kvs k v ck).map (ent kd)).toArray := by
  obtain ⟨hlt, hk, _⟩ := List.findIdx?_eq_some_iff_getElem.1 hj
  have hany : kvs.any (fun x => x.1 == k) = true := List.any_eq_true.2 ⟨kvs[j], by simp, hk⟩
  have hkj : kvs[j].1 = k := by simpa using hk
  unfold putM
  rw [if_pos hany]
  apply Array.ext
  · simp
  · intro i h1 h2
    simp at h1 h2
    by_cases hij : i = j
    · subst hij
      simp [Array.getElem_modify, ent, hkj]
    · have hne : kvs[i].1 ≠ k := by
        intro he
        have h3 : (kvs.map (·.1))[i]'(by simpa using h1) = (kvs.map (·.1))[j]'(by simpa using hlt) := by simp [he, hkj]
        exact hij ((List.getElem_inj hn).1 h3)
      simp [Array.getElem_modify, Ne.symm hij, hne]
theorem fit_put {kvs : List KV} {k : Int} {v : Value} {ck : Nat} (h : fitM kvs ck) : fitM (putM kvs k v ck) (clockM kvs k ck) := by
  obtain ⟨h1, h2, h3⟩ := h
  unfold putM clockM
  by_cases ha : kvs.any (fun x => x.1 == k) = true
  · rw [if_pos ha, if_pos ha]
    have e1 : (kvs.map fun x => if x.1 = k then (k, v, x.2.2) else x).map (·.1) = kvs.map (·.1) := by
      rw [List.map_map]
      refine List.map_congr_left fun x _ => ?_
      show (if x.1 = k then (k, v, x.2.2) else x).1 = x.1
      split
      · rename_i he; exact he.symm
      · rfl
    have e2 : (kvs.map fun x => if x.1 = k then (k, v, x.2.2) else x).map (·.2.2) = kvs.map (·.2.2) := by
      rw [List.map_map]
      refine List.map_congr_left fun x _ => ?_
      show (if x.1 = k then (k, v, x.2.2) else x).2.2 = x.2.2
      split <;> rfl
    refine ⟨by rw [e1]; exact h1, by rw [e2]; exact h2, fun x hx => ?_⟩
    obtain ⟨y, hy, rfl⟩ := List.mem_map.1 hx
    have := h3 y hy
    split <;> exact this
  · rw [if_neg ha, if_neg ha]
    refine ⟨?_, ?_, fun x hx => ?_⟩
    · rw [List.map_append]
      refine List.nodup_append.2 ⟨h1, by simp, ?_⟩
      intro a ha1 b hb1
      simp at hb1
      subst hb1
      rintro rfl
      obtain ⟨y, hy, he⟩ := List.mem_map.1 ha1
      exact ha (List.any_eq_true.2 ⟨y, hy, by simpa using he⟩)
    · rw [List.map_append]
      refine List.nodup_append.2 ⟨h2, by simp, ?_⟩
      intro a ha1 b hb1
      simp at hb1
      subst hb1
      rintro rfl
      obtain ⟨y, hy, he⟩ := List.mem_map.1 ha1
      have := h3 y hy
      omega
    · rcases List.mem_append.1 hx with hx | hx
      · have := h3 x hx; omega
      · simp at hx; subst hx; show ck < ck + 1; omega
theorem eff_mapUpdate {t kt et b : Nat} {q kd : IntKind} {k : Int} {m y x : Operand} {v : Value} {kvs : List KV} {ck : Nat} (H : On W0 (MapC b kd kvs ck :: L) w) (hU : P.underlying t = some (.map kt et)) (hK : P.underlying kt = some (.int q)) (hm : ρ m = .map (some b)) (hy : ρ y = .int kd k) (hx : ρ x = v) :
    Eff P ρ ⟨d, .mapUpdate t m y x, ty, pos, af, g⟩ w (fun _ w' => On W0 (MapC b kd (putM kvs k v ck) (clockM kvs k ck) :: L) w') := by
  obtain ⟨hfit, hb⟩ := H.mapC
  have hO := H.mapSet (fit_put (k := k) (v := v) hfit)
  have hf := findNow_ints (q := q) (kd := kd) (k := k) kvs 0
  have hgo : (getObj b).run P w = .ok (mapO kd kvs ck) w := MapKept.run_getObj_map (by exact hb)
  have hso : ∀ o, (setObj b o).run P w = .ok () { w with heap := w.heap.setIfInBounds b o } := fun o => MapKept.run_setObj_map o (by exact hb)
  unfold mapO at hgo
  have hck : ∀ e, (Instr.checkKey e 10000 kt (.int kd k)).run P w = .ok () w := fun e => checkKey_int hK e 9999
  refine .inr (.inl ⟨_, ?_, hO⟩)
  cases hfi : kvs.findIdx? fun x => x.1 == k with
  | none =>
    rw [hfi] at hf
    simp only [Option.bind_none] at hf
    have hany : kvs.any (fun x => x.1 == k) = false := by
      rw [List.any_eq_false]; intro x hx; have := List.findIdx?_eq_none_iff.1 hfi x hx; simp [this]
    have e1 : mapO kd (putM kvs k v ck) (clockM kvs k ck) = .map ((kvs.map (ent kd)).toArray.push { key := .int kd k, val := v, born := ck }) (ck + 1) := by
      unfold mapO putM clockM
      rw [if_neg (by rw [hany]; decide), if_neg (by rw [hany]; decide)]
      simp [ent]
    rw [e1]
    simp [execOp, Instr.mapUpdate, run_underlying hU, run_underlying hK, hm, hy, hx, hgo, hck, Instr.findKey, hf, hso]
  | some j =>
    rw [hfi] at hf
    have hj := (List.findIdx?_eq_some_iff_getElem.1 hfi).1
    have hkk := (List.findIdx?_eq_some_iff_getElem.1 hfi).2.1
    have hg : kvs[j]? = some kvs[j] := by simp
    simp only [Option.bind_some, hg, Option.map_some, Nat.zero_add] at hf
    have hany : kvs.any (fun x => x.1 == k) = true := List.any_eq_true.2 ⟨kvs[j], by simp, hkk⟩
    have hkj : kvs[j].1 = k := by simpa using hkk
    have e1 : mapO kd (putM kvs k v ck) (clockM kvs k ck) = .map ((kvs.map (ent kd)).toArray.modify j fun e => { e with key := .int kd k, val := v }) ck := by
      unfold mapO clockM
      rw [if_pos hany, put_modify hfit.1 hfi ck]
    rw [e1]
    have hold : ((((kvs.map (ent kd)).toArray[j]?).map (·.key)).getD (.int kd k)) = .int kd k := by simp [hg, ent, hkj]
    simp [execOp, Instr.mapUpdate, run_underlying hU, run_underlying hK, hm, hy, hx, hgo, hck, Instr.findKey, hf, hso, hg, ent, hkj, run_insKey]
theorem eff_clearMap {t kt et b : Nat} {kd : IntKind} {x : Operand} {kvs : List KV} {ck : Nat} {tys : Array TypeId} (H : On W0 (MapC b kd kvs ck :: L) w) (ht : tys[0]? = some t) (hU : P.underlying t = some (.map kt et)) (hx : ρ x = .map (some b)) :
    Eff P ρ ⟨d, .call { callee := .builtin .clear, args := #[x], argTypes := tys }, ty, pos, af, g⟩ w (fun v w' => On W0 (MapC b kd [] ck :: L) w') := by
  obtain ⟨hfit, hb⟩ := H.mapC
  have hO := H.mapSet (kvs' := []) (ck' := ck) ⟨List.nodup_nil, List.nodup_nil, fun x hx => by cases hx⟩
  have hgo : (getObj b).run P w = .ok (mapO kd kvs ck) w := MapKept.run_getObj_map (by exact hb)
  have hso : ∀ o, (setObj b o).run P w = .ok () { w with heap := w.heap.setIfInBounds b o } := fun o => MapKept.run_setObj_map o (by exact hb)
  unfold mapO at hgo
  refine .inl ⟨.tuple #[], _, ?_, hO⟩
  have e1 : mapO kd [] ck = .map #[] ck := rfl
  rw [e1]
  simp [execOp, resolve, invoke, builtin, hx, Builtin.clear_, ht, run_underlying hU, hgo, hso]
/-- An iterator over a map that does not turn. -/
def IterC (r b : Nat) (seen : Array Nat) (ck : Nat) : HProp := pts r (.mapIter (some b) ck seen ck)
def remM (kvs : List KV) (seen : Array Nat) : List KV := kvs.filter fun x => !seen.contains x.2.2
theorem eff_range {t kt et b : Nat} {kd : IntKind} {x : Operand} {kvs : List KV} {ck : Nat} (H : On W0 (MapC b kd kvs ck :: L) w) (hU : P.underlying t = some (.map kt et)) (hx : ρ x = .map (some b)) :
    Eff P ρ ⟨d, .range t x, ty, pos, af, g⟩ w (fun v w' => ∃ r, v = .pointer (some ⟨r, 0, none⟩) ∧ On W0 (IterC r b #[] ck :: MapC b kd kvs ck :: L) w') := by
  have hb := H.mapC.2
  have hr := run_range_map (P := P) w t kt et b (kvs.map (ent kd)).toArray ck hU hb
  refine .inl ⟨_, _, ?_, w.heap.size, rfl, H.alloc _⟩
  simp [execOp, hx, hr]
theorem eff_next {r b : Nat} {kd : IntKind} {x : Operand} {seen : Array Nat} {kvs : List KV} {ck : Nat} (H : On W0 (IterC r b seen ck :: MapC b kd kvs ck :: L) w) (hx : ρ x = .pointer (some ⟨r, 0, none⟩)) :
    Eff P ρ ⟨d, .next x false, ty, pos, af, g⟩ w (fun v w' => (remM kvs seen = [] ∧ v = .tuple #[.bool false] ∧ On W0 (IterC r b seen ck :: MapC b kd kvs ck :: L) w') ∨
      (∃ e ∈ remM kvs seen, v = .tuple #[.bool true, .int kd e.1, e.2.1] ∧ On W0 (IterC r b (seen.push e.2.2) ck :: MapC b kd kvs ck :: L) w')) := by
  have hr : w.heap[r]? = some (.mapIter (some b) ck seen ck) := H.block 0 rfl
  obtain ⟨hfit, hb⟩ := H.tail.mapC
  have hleft : (leftOf (kvs.map (ent kd)).toArray seen).toList = (remM kvs seen).map (ent kd) := by
    unfold leftOf remM
    rw [show ((kvs.map (ent kd)).toArray.filter fun e => !seen.contains e.born).toList = (kvs.map (ent kd)).filter (fun e => !seen.contains e.born) by simp, List.filter_map]
    rfl
  rcases run_next_at (P := P) w ty r b ck ck seen (kvs.map (ent kd)).toArray ck hr hb (fun y hy => by
    simp at hy
    obtain ⟨a1, a2, a3, hy, rfl⟩ := hy
    exact hfit.2.2 _ hy) (Nat.le_refl _) with ⟨h0, hrun⟩ | ⟨e, he, w1, hw1, hrun⟩
  · have hnil : remM kvs seen = [] := by
      have : (leftOf (kvs.map (ent kd)).toArray seen).toList.length = 0 := by simpa using h0
      rw [hleft] at this
      exact List.eq_nil_of_length_eq_zero (by simpa using this)
    refine .inl ⟨_, w, ?_, .inl ⟨hnil, rfl, H⟩⟩
    simp [execOp, hx, hrun]
  · rw [hleft] at he
    obtain ⟨y, hy, rfl⟩ := List.mem_map.1 he
    have H1 : On W0 (IterC r b seen ck :: MapC b kd kvs ck :: L) w1 := by rcases hw1 with rfl | rfl; exact H; exact H.drew
    have hr1 : w1.heap[r]? = some (.mapIter (some b) ck seen ck) := H1.block 0 rfl
    have hlt : r < w1.heap.size := (Array.getElem?_eq_some_iff.1 hr1).1
    refine .inl ⟨.tuple #[.bool true, .int kd y.1, y.2.1], _, by simp [execOp, hx, hrun, ent]; rfl, .inr ⟨y, hy, rfl, ?_⟩⟩
    refine H1.set 0 rfl rfl rfl rfl ?_ ?_ ?_
    · simp [ChangeMaps.setBlock]
    · simp [ChangeMaps.setBlock, Array.getElem?_setIfInBounds, hlt, ent]
    · intro k hk
      simp [ChangeMaps.setBlock, Array.getElem?_setIfInBounds, Ne.symm hk]
theorem run_entryM {r b : Nat} {kd : IntKind} {x : Operand} {seen : Array Nat} {kvs : List KV} {ck : Nat} {e : KV} (H : On W0 (IterC r b (seen.push e.2.2) ck :: MapC b kd kvs ck :: L) w) (he : e ∈ kvs) (hx : ρ x = .pointer (some ⟨r, 0, none⟩)) :
    (execOp ρ ⟨d, .entry x, ty, pos, af, g⟩).run P w = .ok (.value (.tuple #[.int kd e.1, e.2.1])) w := by
  have hr : w.heap[r]? = some (.mapIter (some b) ck (seen.push e.2.2) ck) := H.block 0 rfl
  obtain ⟨hfit, hb⟩ := H.tail.mapC
  have h1 := run_entry_at (P := P) w r b ck seen (kvs.map (ent kd)).toArray ck (ent kd e) hr hb (by simpa using ⟨e.1, e.2.1, e.2.2, he, rfl⟩) (by
    have : ((kvs.map (ent kd)).toArray.toList.map (·.born)) = kvs.map (·.2.2) := by simp [Function.comp_def, ent]
    rw [this]; exact hfit.2.1)
  simp [execOp, hx, h1, ent]
end
end Go.Sl
