/-
  Maps keyed by pairs of numbers: what they hold, looked up, stored into. Nothing of any program is named here.
-/
import Derived.Test.YtdpakoefdpmebaaGreatSlMapW
namespace Go.Sl
open Go
set_option linter.unusedVariables false
set_option linter.unusedSimpArgs false
abbrev KS := (Int × Int) × Value × Nat
def keyS (k1 k2 : IntKind) (p : Int × Int) : Value := .agg #[.int k1 p.1, .int k2 p.2]
def entS (k1 k2 : IntKind) (x : KS) : MapEntry := { key := keyS k1 k2 x.1, val := x.2.1, born := x.2.2 }
def mapOS (k1 k2 : IntKind) (kvs : List KS) (ck : Nat) : Obj := .map (kvs.map (entS k1 k2)).toArray ck
def fitS (kvs : List KS) (ck : Nat) : Prop := (kvs.map (·.1)).Nodup
def MapS (b : Nat) (k1 k2 : IntKind) (kvs : List KS) (ck : Nat) : HProp := fun h => fitS kvs ck ∧ h b = some (mapOS k1 k2 kvs ck)
def lookS (kvs : List KS) (k : Int × Int) : Option Value := (kvs.find? fun x => x.1 == k).map (·.2.1)
def putS (kvs : List KS) (k : Int × Int) (v : Value) (ck : Nat) : List KS := if kvs.any (fun x => x.1 == k) then kvs.map fun x => if x.1 = k then (k, v, x.2.2) else x else kvs ++ [(k, v, ck)]
def clockS (kvs : List KS) (k : Int × Int) (ck : Nat) : Nat := if kvs.any (fun x => x.1 == k) then ck else ck + 1
/-- A type of keys: two numbers, compared one by one. -/
structure PairKey (P : Program) (kt : TypeId) (k1 k2 : IntKind) : Prop where
  fld : ∃ f1 f2 : Field, P.underlying kt = some (.struct #[f1, f2]) ∧ f1.name ≠ "_" ∧ f2.name ≠ "_" ∧ f1.offset = 0 ∧ f2.offset = 1 ∧ P.underlying f1.type = some (.int k1) ∧ P.underlying f2.type = some (.int k2) ∧
    (∀ w, (isAgg f1.type).run P w = .ok false w) ∧ (∀ w, (isAgg f2.type).run P w = .ok false w)
  held : P.stoodInHeld kt = false
section
variable {P : Program} {W0 w : World} {L : List HProp} {ρ : Operand → Value} {d : Option Nat} {ty : TypeId} {pos : String} {af : Array Edge} {g : Option (Nat × Bool)} {kt : TypeId} {k1 k2 : IntKind}
theorem pair_eq (hk : PairKey P kt k1 k2) (p q : Int × Int) : (Op.equal kt (keyS k1 k2 p) (keyS k1 k2 q)).run P w = .ok (decide (p = q)) w := by
  obtain ⟨f1, f2, hU, hn1, hn2, ho1, ho2, hE1, hE2, hA1, hA2⟩ := hk.fld
  have hH := hk.held
  have e1 : ∀ a b : Int, (Op.equalIn 9999 f1.type (.int k1 a) (.int k1 b)).run P w = .ok (a == b) w := fun a b => eqIn_int (P := P) (w := w) hE1 9998
  have e2 : ∀ a b : Int, (Op.equalIn 9999 f2.type (.int k2 a) (.int k2 b)).run P w = .ok (a == b) w := fun a b => eqIn_int (P := P) (w := w) hE2 9998
  obtain ⟨a, b⟩ := p
  obtain ⟨c, c'⟩ := q
  unfold Op.equal Op.maxDepth keyS
  rw [show (10000 : Nat) = 9999 + 1 from rfl]
  unfold Op.equalIn
  by_cases h1 : a = c <;> by_cases h2 : b = c' <;> simp [run_underlying hU, hH, part, hA1, hA2, ho1, ho2, hn1, hn2, e1, e2, h1, h2]
theorem pair_check (hk : PairKey P kt k1 k2) (e : Bool) (p : Int × Int) : (Instr.checkKey e 10000 kt (keyS k1 k2 p)).run P w = .ok () w := by
  obtain ⟨f1, f2, hU, hn1, hn2, ho1, ho2, hE1, hE2, hA1, hA2⟩ := hk.fld
  have c1 : ∀ (w : World) (a : Int), (Instr.checkKey e 9999 f1.type (.int k1 a)).run P w = .ok () w := fun w a => checkKey_int hE1 e 9998
  have c2 : ∀ (w : World) (a : Int), (Instr.checkKey e 9999 f2.type (.int k2 a)).run P w = .ok () w := fun w a => checkKey_int hE2 e 9998
  unfold keyS
  rw [show (10000 : Nat) = 9999 + 1 from rfl]
  unfold Instr.checkKey
  simp [run_underlying hU, part, hA1, hA2, ho1, ho2, hn1, hn2, c1, c2]
theorem pair_asking (hk : PairKey P kt k1 k2) (p : Int × Int) : ∀ (kvs : List KS) (i : Nat), (Instr.findAsking kt (keyS k1 k2 p) (kvs.map (entS k1 k2)) i).run P w = .ok ((kvs.findIdx? fun x => x.1 == p).bind fun j => (kvs[j]?).map fun x => (i + j, x.2.1)) w := by
  intro kvs
  induction kvs with
  | nil => intro i; rfl
  | cons x kvs ih =>
    intro i
    rw [List.map_cons]
    unfold Instr.findAsking
    have he : (Op.equal kt (keyS k1 k2 p) (keyS k1 k2 x.1)).run P w = .ok (decide (p = x.1)) w := pair_eq hk p x.1
    by_cases h : p = x.1
    · subst h
      simp [he, List.findIdx?_cons, entS]
    · have h2 : (x.1 == p) = false := by simpa using fun e => h e.symm
      have hx : (entS k1 k2 x).key = keyS k1 k2 x.1 := rfl
      rw [hx]
      simp only [Sem.run_bind, he, decide_eq_false h, Result.andThen]
      simp only [Bool.false_eq_true, if_false]
      rw [ih (i + 1), List.findIdx?_cons, h2]
      simp only [Bool.false_eq_true, if_false]
      cases kvs.findIdx? fun x => x.1 == p with
      | none => rfl
      | some j => simp; cases kvs[j]? <;> simp; omega
theorem pair_find (hk : PairKey P kt k1 k2) (p : Int × Int) (kvs : List KS) : (Instr.findKey kt (keyS k1 k2 p) (kvs.map (entS k1 k2))).run P w = .ok ((kvs.findIdx? fun x => x.1 == p).bind fun j => (kvs[j]?).map fun x => (j, x.2.1)) w := by
  obtain ⟨f1, f2, hU, _⟩ := hk.fld
  have ha := pair_asking (w := w) hk p kvs 0
  simp only [Nat.zero_add] at ha
  cases kvs with
  | nil => simp [Instr.findKey, run_underlying hU, Instr.findNow]
  | cons x kvs =>
    have hn : Instr.findNow (.struct #[f1, f2]) (keyS k1 k2 p) ((x :: kvs).map (entS k1 k2)) 0 = none := by
      simp [Instr.findNow, Instr.sameNow, keyS]
    unfold Instr.findKey
    simp only [Sem.run_bind, run_underlying hU, hn, Result.andThen]
    exact ha
theorem lookS_idx (kvs : List KS) (k : Int × Int) : lookS kvs k = (kvs.findIdx? fun x => x.1 == k).bind fun j => (kvs[j]?).map (·.2.1) := by
  unfold lookS
  induction kvs with
  | nil => rfl
  | cons x kvs ih =>
    rw [List.find?_cons, List.findIdx?_cons]
    cases h : x.1 == k
    · rw [ih]
      simp only [Bool.false_eq_true, if_false]
      cases kvs.findIdx? fun x => x.1 == k with
      | none => rfl
      | some j => simp
    · simp
theorem On.mapSC {b : Nat} {kvs : List KS} {ck : Nat} (H : On W0 (MapS b k1 k2 kvs ck :: L) w) : fitS kvs ck ∧ w.heap[b]? = some (mapOS k1 k2 kvs ck) := by
  obtain ⟨h1, h2, dd, s1, s2, ⟨hf, a⟩, r⟩ := H.sat
  exact ⟨hf, s1 _ _ a⟩
theorem On.mapSOpen {b : Nat} {kvs : List KS} {ck : Nat} (H : On W0 (MapS b k1 k2 kvs ck :: L) w) : fitS kvs ck ∧ On W0 (pts b (mapOS k1 k2 kvs ck) :: L) w := by
  obtain ⟨h1, h2, dd, s1, s2, ⟨hf, a⟩, r⟩ := H.sat
  exact ⟨hf, H.os, H.output, H.tape, H.size, h1, h2, dd, s1, s2, a, r⟩
theorem On.mapSClose {b : Nat} {kvs : List KS} {ck : Nat} (hf : fitS kvs ck) (H : On W0 (pts b (mapOS k1 k2 kvs ck) :: L) w) : On W0 (MapS b k1 k2 kvs ck :: L) w := H.head fun h a => ⟨hf, a⟩
theorem On.mapSSet {b : Nat} {kvs kvs' : List KS} {ck ck' : Nat} (hf : fitS kvs' ck') (H : On W0 (MapS b k1 k2 kvs ck :: L) w) : On W0 (MapS b k1 k2 kvs' ck' :: L) { w with heap := w.heap.setIfInBounds b (mapOS k1 k2 kvs' ck') } := by
  obtain ⟨_, H⟩ := H.mapSOpen
  have hb := H.block 0 rfl
  have hlt : b < w.heap.size := (Array.getElem?_eq_some_iff.1 hb).1
  refine On.mapSClose hf (H.set (w' := { w with heap := w.heap.setIfInBounds b (mapOS k1 k2 kvs' ck') }) 0 rfl rfl rfl rfl (by simp) ?_ ?_)
  · simp [Array.getElem?_setIfInBounds, hlt]
  · intro k hk
    simp [Array.getElem?_setIfInBounds, Ne.symm hk]
theorem eff_makeMapS {t : Nat} (k1 k2 : IntKind) (H : On W0 L w) : Eff P ρ ⟨d, .makeMap t none, ty, pos, af, g⟩ w (fun v w' => ∃ b, v = .map (some b) ∧ On W0 (MapS b k1 k2 [] 0 :: L) w') := by
  refine .inl ⟨.map (some w.heap.size), w.alloc (.map #[] 0), ?_, _, rfl, On.mapSClose List.nodup_nil (H.alloc _)⟩
  have hn : (newObj (.map #[] 0)).run P w = .ok w.heap.size (w.alloc (.map #[] 0)) := rfl
  simp [execOp, Instr.makeMap, hn]
theorem getObj_mapS {b : Nat} {kvs : List KS} {ck : Nat} (hb : w.heap[b]? = some (mapOS k1 k2 kvs ck)) : (getObj b).run P w = .ok (.map (kvs.map (entS k1 k2)).toArray ck) w := MapKept.run_getObj_map (by exact hb)
theorem run_lookupSOk {t et b : Nat} {p : Int × Int} {x y : Operand} {z v : Value} {o : Bool} {kvs : List KS} {ck : Nat} (hk : PairKey P kt k1 k2) (hb : w.heap[b]? = some (mapOS k1 k2 kvs ck)) (hU : P.underlying t = some (.map kt et)) (hZ : ∀ w, (zeroValue et).run P w = .ok z w) (hx : ρ x = .map (some b)) (hy : ρ y = keyS k1 k2 p)
    (hv : (lookS kvs p).getD z = v) (ho : (lookS kvs p).isSome = o) : (execOp ρ ⟨d, .lookup t x y true, ty, pos, af, g⟩).run P w = .ok (.value (.tuple #[v, .bool o])) w := by
  subst hv
  subst ho
  have hf := pair_find (w := w) hk p kvs
  have hgo := getObj_mapS (P := P) hb
  rw [lookS_idx]
  have hck : ∀ e, (Instr.checkKey e 10000 kt (keyS k1 k2 p)).run P w = .ok () w := fun e => pair_check hk e p
  cases hfi : kvs.findIdx? fun x => x.1 == p with
  | none =>
    rw [hfi] at hf
    simp only [Option.bind_none] at hf ⊢
    simp [execOp, Instr.lookup, run_underlying hU, hx, hy, hgo, hck, hf, hZ]
  | some j =>
    rw [hfi] at hf
    have hj := (List.findIdx?_eq_some_iff_getElem.1 hfi).1
    have hg : kvs[j]? = some kvs[j] := by simp
    simp only [Option.bind_some, hg, Option.map_some] at hf ⊢
    simp [execOp, Instr.lookup, run_underlying hU, hx, hy, hgo, hck, hf]
theorem run_lookupS {t et b : Nat} {p : Int × Int} {x y : Operand} {z v : Value} {kvs : List KS} {ck : Nat} (hk : PairKey P kt k1 k2) (hb : w.heap[b]? = some (mapOS k1 k2 kvs ck)) (hU : P.underlying t = some (.map kt et)) (hZ : ∀ w, (zeroValue et).run P w = .ok z w) (hx : ρ x = .map (some b)) (hy : ρ y = keyS k1 k2 p)
    (hv : (lookS kvs p).getD z = v) : (execOp ρ ⟨d, .lookup t x y false, ty, pos, af, g⟩).run P w = .ok (.value v) w := by
  subst hv
  have hf := pair_find (w := w) hk p kvs
  have hgo := getObj_mapS (P := P) hb
  rw [lookS_idx]
  have hck : ∀ e, (Instr.checkKey e 10000 kt (keyS k1 k2 p)).run P w = .ok () w := fun e => pair_check hk e p
  cases hfi : kvs.findIdx? fun x => x.1 == p with
  | none =>
    rw [hfi] at hf
    simp only [Option.bind_none] at hf ⊢
    simp [execOp, Instr.lookup, run_underlying hU, hx, hy, hgo, hck, hf, hZ]
  | some j =>
    rw [hfi] at hf
    have hj := (List.findIdx?_eq_some_iff_getElem.1 hfi).1
    have hg : kvs[j]? = some kvs[j] := by simp
    simp only [Option.bind_some, hg, Option.map_some] at hf ⊢
    simp [execOp, Instr.lookup, run_underlying hU, hx, hy, hgo, hck, hf]
theorem run_insKeyS {p : Int × Int} : (Instr.keyThatStays (keyS k1 k2 p) (keyS k1 k2 p)).run P w = .ok (keyS k1 k2 p) w := by
  have h : Instr.sameBits 10000 (keyS k1 k2 p) (keyS k1 k2 p) = true := by
    rw [show (10000 : Nat) = 9999 + 1 from rfl]
    have h9 : ∀ k a, Instr.sameBits 9999 (.int k a) (.int k a) = true := fun k a => by
      rw [show (9999 : Nat) = 9998 + 1 from rfl]
      simp [Instr.sameBits]
    unfold keyS Instr.sameBits
    simp [h9]
  unfold Instr.keyThatStays
  rw [if_pos h]
  rfl
theorem putS_modify {p : Int × Int} {v : Value} {kvs : List KS} {j : Nat} (hn : (kvs.map (·.1)).Nodup) (hj : (kvs.findIdx? fun x => x.1 == p) = some j) (ck : Nat) :
    ((kvs.map (entS k1 k2)).toArray.modify j fun e => { e with key := keyS k1 k2 p, val := v }) = ((putS kvs p v ck).map (entS k1 k2)).toArray := by
  obtain ⟨hlt, hk, _⟩ := List.findIdx?_eq_some_iff_getElem.1 hj
  have hany : kvs.any (fun x => x.1 == p) = true := List.any_eq_true.2 ⟨kvs[j], by simp, hk⟩
  have hkj : kvs[j].1 = p := by simpa using hk
  unfold putS
  rw [if_pos hany]
  apply Array.ext
  · simp
  · intro i h1 h2
    simp at h1 h2
    by_cases hij : i = j
    · subst hij
      simp [Array.getElem_modify, entS, hkj]
    · have hne : kvs[i].1 ≠ p := by
        intro he
        have h3 : (kvs.map (·.1))[i]'(by simpa using h1) = (kvs.map (·.1))[j]'(by simpa using hlt) := by simp [he, hkj]
        exact hij ((List.getElem_inj hn).1 h3)
      simp [Array.getElem_modify, Ne.symm hij, hne]
theorem putS_keys {kvs : List KS} {p : Int × Int} {v : Value} {ck : Nat} : (putS kvs p v ck).map (·.1) = if kvs.any (fun x => x.1 == p) then kvs.map (·.1) else kvs.map (·.1) ++ [p] := by
  unfold putS
  split
  · rw [List.map_map]
    refine List.map_congr_left fun x _ => ?_
    show (if x.1 = p then (p, v, x.2.2) else x).1 = x.1
    split
    · rename_i he; exact he.symm
    · rfl
  · rw [List.map_append]; rfl
theorem fitS_put {kvs : List KS} {p : Int × Int} {v : Value} {ck : Nat} (h : fitS kvs ck) : fitS (putS kvs p v ck) (clockS kvs p ck) := by
  unfold fitS
  rw [putS_keys]
  split
  · exact h
  · rename_i ha
    refine List.nodup_append.2 ⟨h, by simp, ?_⟩
    intro a ha1 b hb1
    simp at hb1
    subst hb1
    rintro rfl
    obtain ⟨y, hy, he⟩ := List.mem_map.1 ha1
    exact ha (List.any_eq_true.2 ⟨y, hy, by simpa using he⟩)
theorem eff_mapUpdateS {t et b : Nat} {p : Int × Int} {m y x : Operand} {v : Value} {kvs : List KS} {ck : Nat} (hk : PairKey P kt k1 k2) (H : On W0 (MapS b k1 k2 kvs ck :: L) w) (hU : P.underlying t = some (.map kt et)) (hm : ρ m = .map (some b)) (hy : ρ y = keyS k1 k2 p) (hx : ρ x = v) :
    Eff P ρ ⟨d, .mapUpdate t m y x, ty, pos, af, g⟩ w (fun _ w' => On W0 (MapS b k1 k2 (putS kvs p v ck) (clockS kvs p ck) :: L) w') := by
  obtain ⟨hfit, hb⟩ := H.mapSC
  have hO := H.mapSSet (fitS_put (p := p) (v := v) hfit)
  have hf := pair_find (w := w) hk p kvs
  have hgo := getObj_mapS (P := P) hb
  have hso : ∀ o, (setObj b o).run P w = .ok () { w with heap := w.heap.setIfInBounds b o } := fun o => MapKept.run_setObj_map o (by exact hb)
  have hck : ∀ e, (Instr.checkKey e 10000 kt (keyS k1 k2 p)).run P w = .ok () w := fun e => pair_check hk e p
  refine .inr (.inl ⟨_, ?_, hO⟩)
  cases hfi : kvs.findIdx? fun x => x.1 == p with
  | none =>
    rw [hfi] at hf
    simp only [Option.bind_none] at hf
    have hany : kvs.any (fun x => x.1 == p) = false := by
      rw [List.any_eq_false]; intro x hx; have := List.findIdx?_eq_none_iff.1 hfi x hx; simpa using this
    have e1 : mapOS k1 k2 (putS kvs p v ck) (clockS kvs p ck) = .map ((kvs.map (entS k1 k2)).toArray.push { key := keyS k1 k2 p, val := v, born := ck }) (ck + 1) := by
      unfold mapOS putS clockS
      rw [if_neg (by rw [hany]; decide), if_neg (by rw [hany]; decide)]
      simp [entS]
    rw [e1]
    simp [execOp, Instr.mapUpdate, run_underlying hU, hm, hy, hx, hgo, hck, hf, hso]
  | some j =>
    rw [hfi] at hf
    have hj := (List.findIdx?_eq_some_iff_getElem.1 hfi).1
    have hkk := (List.findIdx?_eq_some_iff_getElem.1 hfi).2.1
    have hg : kvs[j]? = some kvs[j] := by simp
    simp only [Option.bind_some, hg, Option.map_some] at hf
    have hany : kvs.any (fun x => x.1 == p) = true := List.any_eq_true.2 ⟨kvs[j], by simp, hkk⟩
    have hkj : kvs[j].1 = p := by simpa using hkk
    have e1 : mapOS k1 k2 (putS kvs p v ck) (clockS kvs p ck) = .map ((kvs.map (entS k1 k2)).toArray.modify j fun e => { e with key := keyS k1 k2 p, val := v }) ck := by
      unfold mapOS clockS
      rw [if_pos hany, putS_modify hfit hfi ck]
    rw [e1]
    simp [execOp, Instr.mapUpdate, run_underlying hU, hm, hy, hx, hgo, hck, hf, hso, hg, entS, hkj, run_insKeyS]
/-! ### What they hold, as plain data -/
theorem lookS_none {kvs : List KS} {p : Int × Int} (h : p ∉ kvs.map (·.1)) : lookS kvs p = none := by
  unfold lookS
  rw [List.find?_eq_none.2 (fun x hx => by simpa using fun e : x.1 = p => h (List.mem_map.2 ⟨x, hx, e⟩))]
  rfl
theorem lookS_mem {kvs : List KS} {p : Int × Int} (h : p ∈ kvs.map (·.1)) : ∃ v, lookS kvs p = some v := by
  unfold lookS
  cases hf : kvs.find? fun x => x.1 == p with
  | none =>
    obtain ⟨x, hx, e⟩ := List.mem_map.1 h
    have := List.find?_eq_none.1 hf x hx
    simp [e] at this
  | some x => exact ⟨x.2.1, rfl⟩
theorem lookS_put {kvs : List KS} {p q : Int × Int} {v : Value} {ck : Nat} : lookS (putS kvs p v ck) q = if q = p then some v else lookS kvs q := by
  unfold putS
  by_cases ha : kvs.any (fun x => x.1 == p) = true
  · rw [if_pos ha]
    unfold lookS
    induction kvs with
    | nil => cases ha
    | cons x kvs ih =>
      rw [List.map_cons]
      by_cases hx : x.1 = p
      · rw [if_pos hx]
        by_cases hq : q = p
        · subst hq
          simp
        · have e1 : (((p, v, x.2.2) : KS).1 == q) = false := by simpa using fun e : p = q => hq e.symm
          have e2 : (x.1 == q) = false := by rw [hx]; exact e1
          rw [List.find?_cons, e1, List.find?_cons, e2, if_neg hq]
          simp only
          by_cases ha2 : kvs.any (fun x => x.1 == p) = true
          · rw [ih ha2, if_neg hq]
          · have e3 : kvs.map (fun x => if x.1 = p then (p, v, x.2.2) else x) = kvs := by
              have : kvs.map (fun x => if x.1 = p then (p, v, x.2.2) else x) = kvs.map id := List.map_congr_left fun y hy => by
                have : ¬ y.1 = p := fun e => ha2 (List.any_eq_true.2 ⟨y, hy, by simpa using e⟩)
                rw [if_neg this]; rfl
              rw [this, List.map_id]
            rw [e3]
      · rw [if_neg hx]
        have ha2 : kvs.any (fun x => x.1 == p) = true := by
          rw [List.any_cons] at ha
          have : (x.1 == p) = false := by simpa using hx
          rw [this, Bool.false_or] at ha
          exact ha
        rw [List.find?_cons, List.find?_cons]
        cases hxq : x.1 == q with
        | true =>
          have : x.1 = q := by simpa using hxq
          rw [if_neg (fun e => hx (this.trans e))]
        | false => exact ih ha2
  · rw [if_neg ha]
    unfold lookS
    rw [List.find?_append]
    by_cases hq : q = p
    · subst hq
      have : kvs.find? (fun x => x.1 == q) = none := List.find?_eq_none.2 fun x hx => by
        intro e; exact ha (List.any_eq_true.2 ⟨x, hx, e⟩)
      rw [this, if_pos rfl]
      simp
    · rw [if_neg hq]
      have : ([(p, v, ck)] : List KS).find? (fun x => x.1 == q) = none := List.find?_eq_none.2 fun x hx => by
        rw [List.mem_singleton] at hx; subst hx
        simpa using fun e : p = q => hq e.symm
      rw [this, Option.or_none]
end
end Go.Sl
