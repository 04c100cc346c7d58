/-
  What was asked, committed, told, as plain data, and what is held against what. No program is named here.
-/
import Derived.Test.YtdpakoefdpmebaaGreatUnitCmd
import Derived.Test.YtdpakoefdpmebaaGreatUnitFull
import Derived.Test.YtdpakoefdpmebaaGreatSlMapS
namespace Go.Sl.TrM
open Go Go.Sl Go.Sl.BitM Go.Sl.SpM Go.Sl.RsM Go.Sl.ByM Go.Sl.UnM
set_option linter.unusedVariables false
abbrev Nm := Int × Int
structure InX where
  h : Int
  id : Int
  c : CmX
  at_ : Int
structure CoX where
  h : Int
  id : Int
  at_ : Int
structure OuX where
  h : Int
  id : Int
  st : Int
  key : Int
  code : Int
  ax : Option Addr
  ac : Nat
  bs : List UInt8
  info : Int
  at_ : Int
def InX.cells (x : InX) : List Value := .int .i64 x.h :: .int .u64 x.id :: (x.c.cells ++ [.int .i64 x.at_])
def CoX.cells (x : CoX) : List Value := [.int .i64 x.h, .int .u64 x.id, .int .i64 x.at_]
def OuX.cells (x : OuX) : List Value := [.int .i64 x.h, .int .u64 x.id, .int .i64 x.st, .int .i64 x.key, .int .i64 x.code, .slice x.ax x.bs.length x.ac, .int .i64 x.info, .int .i64 x.at_]
theorem InX.cells_length (x : InX) : x.cells.length = 11 := rfl
theorem CoX.cells_length (x : CoX) : x.cells.length = 3 := rfl
theorem OuX.cells_length (x : OuX) : x.cells.length = 8 := rfl
def InX.nm (x : InX) : Nm := (x.h, x.id)
def CoX.nm (x : CoX) : Nm := (x.h, x.id)
def OuX.nm (x : OuX) : Nm := (x.h, x.id)
def OuX.rp (x : OuX) : Rp := ⟨x.st, x.key, x.code, x.bs, x.info⟩
def InX.val (x : InX) : Value := .agg x.cells.toArray
def CoX.val (x : CoX) : Value := .agg x.cells.toArray
/-! ### The first of a name -/
section
variable {α : Type} {nm : α → Nm} {l : List α} {p q : Nm} {x : α}
def findN (nm : α → Nm) (l : List α) (p : Nm) : Option α := l.find? fun x => decide (nm x = p)
theorem findN_some (h : findN nm l p = some x) : x ∈ l ∧ nm x = p := ⟨List.mem_of_find?_eq_some h, by simpa using List.find?_some h⟩
theorem findN_isSome : (findN nm l p).isSome = decide (p ∈ l.map nm) := by
  unfold findN
  rw [Bool.eq_iff_iff]
  simp
theorem findN_none : findN nm l p = none ↔ p ∉ l.map nm := by
  have h := findN_isSome (nm := nm) (l := l) (p := p)
  cases hf : findN nm l p with
  | none => rw [hf] at h; exact ⟨fun _ hm => (by rw [decide_eq_true hm] at h; cases h), fun _ => rfl⟩
  | some x => rw [hf] at h; exact ⟨fun e => (by cases e), fun hn => (by rw [decide_eq_false hn] at h; cases h)⟩
theorem findN_mem (h : p ∈ l.map nm) : ∃ x, findN nm l p = some x := by
  cases hf : findN nm l p with
  | none => exact absurd h (findN_none.1 hf)
  | some x => exact ⟨x, rfl⟩
theorem findN_snoc (h : nm x ∉ l.map nm) : findN nm (l ++ [x]) q = if q = nm x then some x else findN nm l q := by
  unfold findN
  rw [List.find?_append]
  by_cases e : q = nm x
  · rw [if_pos e]
    have h0 : l.find? (fun y => decide (nm y = q)) = none := findN_none.2 (by rw [e]; exact h)
    rw [h0, Option.none_or, List.find?_cons, e]
    simp
  · rw [if_neg e]
    have h0 : [x].find? (fun y => decide (nm y = q)) = none := by
      rw [List.find?_cons]
      have : decide (nm x = q) = false := decide_eq_false fun e2 => e e2.symm
      rw [this]; rfl
    rw [h0, Option.or_none]
theorem findN_cons : findN nm (x :: l) q = if q = nm x then some x else findN nm l q := by
  unfold findN
  rw [List.find?_cons]
  by_cases e : q = nm x
  · rw [if_pos e, decide_eq_true e.symm]
  · rw [if_neg e, decide_eq_false fun e2 => e e2.symm]
/-- What a map holds of a row. -/
def SpecN (kvs : List KS) (nm : α → Nm) (val : α → Value) (l : List α) : Prop := ∀ p, lookS kvs p = (findN nm l p).map val
variable {kvs : List KS} {val : α → Value} {ck : Nat}
theorem spec_nil : SpecN [] nm val [] := fun p => rfl
theorem spec_snoc (h : SpecN kvs nm val l) (hx : nm x ∉ l.map nm) : SpecN (putS kvs (nm x) (val x) ck) nm val (l ++ [x]) := fun q => by
  rw [lookS_put, findN_snoc hx, h q]
  split <;> rfl
theorem spec_cons (h : SpecN kvs nm val l) : SpecN (putS kvs (nm x) (val x) ck) nm val (x :: l) := fun q => by
  rw [lookS_put, findN_cons, h q]
  split <;> rfl
theorem spec_is (h : SpecN kvs nm val l) (p : Nm) : (lookS kvs p).isSome = decide (p ∈ l.map nm) := by
  rw [h p, ← findN_isSome]
  cases findN nm l p <;> rfl
theorem nodup_snoc (h : (l.map nm).Nodup) (hx : nm x ∉ l.map nm) : ((l ++ [x]).map nm).Nodup := by
  rw [List.map_append]
  refine List.nodup_append.2 ⟨h, by simp, ?_⟩
  intro a ha b hb
  simp at hb
  subst hb
  rintro rfl
  exact hx ha
theorem not_nodup {k : Nat} (hk : l[k]? = some x) (hx : nm x ∈ (l.take k).map nm) : ¬ (l.map nm).Nodup := fun hn => by
  have e : l = l.take k ++ x :: l.drop (k + 1) := by
    have hlt := (List.getElem?_eq_some_iff.1 hk).1
    have he := (List.getElem?_eq_some_iff.1 hk).2
    rw [← he, ← List.drop_eq_getElem_cons hlt, List.take_append_drop]
  rw [e, List.map_append] at hn
  exact (List.nodup_append.1 hn).2.2 _ hx (nm x) (by simp) rfl
end
/-! ### In order -/
def lastAt (l : List CoX) : Int := (l.getLast?.map (·.at_)).getD 0
def okC (ins : List InX) (done : List CoX) (c : CoX) : Int :=
  match findN InX.nm ins c.nm with
  | none => 6
  | some x => if c.nm ∈ done.map CoX.nm ∨ (0 < done.length ∧ c.at_ < lastAt done) ∨ c.at_ < x.at_ then 2 else 0
def rowM (ins : List InX) : List CoX → List CoX → Nat × Int
  | [], _ => (0, 0)
  | c :: l, done => if okC ins done c = 0 then rowM ins l (done ++ [c]) else (done.length, okC ins done c)
def okO (row : List CoX) (done : List OuX) (c : OuX) : Int :=
  match findN CoX.nm row c.nm with
  | none => 6
  | some x => if c.nm ∈ done.map OuX.nm ∨ c.at_ < x.at_ then 2 else 0
def outM (row : List CoX) : List OuX → List OuX → Nat × Int
  | [], _ => (0, 0)
  | c :: l, done => if okO row done c = 0 then outM row l (done ++ [c]) else (done.length, okO row done c)
def orderM (ins : List InX) (row : List CoX) (out : List OuX) : Nat × Int := if (rowM ins row []).2 = 0 then outM row out [] else rowM ins row []
section
variable {ins : List InX} {row : List CoX} {out : List OuX} {k : Nat} {c : CoX} {o : OuX}
theorem drop_cons {α : Type} {l : List α} {k : Nat} {x : α} (h : l[k]? = some x) : l.drop k = x :: l.drop (k + 1) := by
  have hlt := (List.getElem?_eq_some_iff.1 h).1
  have he := (List.getElem?_eq_some_iff.1 h).2
  rw [List.drop_eq_getElem_cons hlt, he]
theorem take_len {α : Type} {l : List α} {k : Nat} (h : k ≤ l.length) : (l.take k).length = k := by rw [List.length_take]; omega
theorem rowM_step (h : row[k]? = some c) (h0 : okC ins (row.take k) c = 0) : rowM ins (row.drop k) (row.take k) = rowM ins (row.drop (k + 1)) (row.take (k + 1)) := by
  rw [drop_cons h, rowM, if_pos h0, take_snoc h]
theorem rowM_stop (h : row[k]? = some c) (h0 : okC ins (row.take k) c ≠ 0) : rowM ins (row.drop k) (row.take k) = (k, okC ins (row.take k) c) := by
  have := (List.getElem?_eq_some_iff.1 h).1
  rw [drop_cons h, rowM, if_neg h0, take_len (by omega)]
theorem outM_step (h : out[k]? = some o) (h0 : okO row (out.take k) o = 0) : outM row (out.drop k) (out.take k) = outM row (out.drop (k + 1)) (out.take (k + 1)) := by
  rw [drop_cons h, outM, if_pos h0, take_snoc h]
theorem outM_stop (h : out[k]? = some o) (h0 : okO row (out.take k) o ≠ 0) : outM row (out.drop k) (out.take k) = (k, okO row (out.take k) o) := by
  have := (List.getElem?_eq_some_iff.1 h).1
  rw [drop_cons h, outM, if_neg h0, take_len (by omega)]
theorem lastAt_snoc (l : List CoX) (c : CoX) : lastAt (l ++ [c]) = c.at_ := by unfold lastAt; simp
end
/-! ### Done again, held against what was told -/
def noCm : Cm := ⟨0, 0, 0, [], 0, 0, 0, false⟩
def cmOf (ins : List InX) (p : Nm) : Cm := ((findN InX.nm ins p).map fun x => x.c.cm).getD noCm
def stepL (ins : List InX) (u : Un) (c : CoX) : Un × Rp := doM u c.h (cmOf ins c.nm)
def unitL (ins : List InX) : List CoX → Un → Un
  | [], u => u
  | c :: l, u => unitL ins l (stepL ins u c).1
def replL (ins : List InX) : List CoX → Un → List Rp
  | [], _ => []
  | c :: l, u => (stepL ins u c).2 :: replL ins l (stepL ins u c).1
theorem replL_length (ins : List InX) : ∀ (l : List CoX) (u : Un), (replL ins l u).length = l.length
  | [], _ => rfl
  | c :: l, u => by show (replL ins l _).length + 1 = l.length + 1; rw [replL_length ins l]
theorem replL_step {ins : List InX} {row : List CoX} {k : Nat} {c : CoX} {u : Un} (h : row[k]? = some c) : replL ins (row.drop k) u = (stepL ins u c).2 :: replL ins (row.drop (k + 1)) (stepL ins u c).1 := by
  rw [drop_cons h, replL]
def isN (p : Nm) (c : CoX) : Bool := decide (c.nm = p)
def idxC (row : List CoX) (p : Nm) : Nat := row.findIdx (isN p)
def sameM (row : List CoX) (rs : List Rp) : List OuX → Nat → Nat × Int
  | [], _ => (0, 0)
  | c :: l, i => if c.rp = rs.getD (idxC row c.nm) (plain 0 0 0) then sameM row rs l (i + 1) else (i, 4)
def checkM (n : Nat) (ins : List InX) (row : List CoX) (out : List OuX) : Nat × Int :=
  if (orderM ins row out).2 = 0 then sameM row (replL ins row (newU n)) out 0 else orderM ins row out
/-- All commits were asked for. -/
theorem rowM_found {ins : List InX} : ∀ (l done : List CoX), (rowM ins l done).2 = 0 → (∀ c ∈ l, c.nm ∈ ins.map InX.nm) ∧ ((done.map CoX.nm).Nodup → ((done ++ l).map CoX.nm).Nodup)
  | [], done, _ => ⟨fun c hc => (by cases hc), fun h => (by rw [List.append_nil]; exact h)⟩
  | c :: l, done, h => by
    unfold rowM at h
    split at h
    · rename_i h0
      have ih := rowM_found l (done ++ [c]) h
      have hf : c.nm ∈ ins.map InX.nm ∧ c.nm ∉ done.map CoX.nm := by
        unfold okC at h0
        split at h0
        · cases h0
        · rename_i x hx
          split at h0
          · cases h0
          · rename_i hno
            exact ⟨List.mem_map.2 ⟨x, (findN_some hx).1, (findN_some hx).2⟩, fun hm => hno (.inl hm)⟩
      refine ⟨fun y hy => ?_, fun hd => ?_⟩
      · rcases List.mem_cons.1 hy with rfl | hy
        · exact hf.1
        · exact ih.1 y hy
      · have := ih.2 (nodup_snoc hd hf.2)
        rwa [List.append_assoc] at this
    · rename_i h0
      exact absurd h h0
theorem outM_found {row : List CoX} : ∀ (l done : List OuX), (outM row l done).2 = 0 → ∀ c ∈ l, c.nm ∈ row.map CoX.nm
  | [], done, _ => fun c hc => (by cases hc)
  | c :: l, done, h => by
    unfold outM at h
    split at h
    · rename_i h0
      have hf : c.nm ∈ row.map CoX.nm := by
        unfold okO at h0
        split at h0
        · cases h0
        · rename_i x hx
          exact List.mem_map.2 ⟨x, (findN_some hx).1, (findN_some hx).2⟩
      intro y hy
      rcases List.mem_cons.1 hy with rfl | hy
      · exact hf
      · exact outM_found l (done ++ [c]) h y hy
    · rename_i h0
      exact absurd h h0
theorem order_ok {ins : List InX} {row : List CoX} {out : List OuX} (h : (orderM ins row out).2 = 0) : (∀ c ∈ row, c.nm ∈ ins.map InX.nm) ∧ (row.map CoX.nm).Nodup ∧ ∀ o ∈ out, o.nm ∈ row.map CoX.nm := by
  unfold orderM at h
  split at h
  · rename_i h0
    have h1 := rowM_found row [] h0
    exact ⟨h1.1, by have := h1.2 List.nodup_nil; rwa [List.nil_append] at this, outM_found out [] h⟩
  · rename_i h0
    exact absurd h h0
theorem idx_get {row : List CoX} {p : Nm} (h : p ∈ row.map CoX.nm) : idxC row p < row.length := by
  obtain ⟨c, hc, e⟩ := List.mem_map.1 h
  exact List.findIdx_lt_length_of_exists ⟨c, hc, decide_eq_true e⟩
theorem idx_nm {row : List CoX} {p : Nm} (h : idxC row p < row.length) : (row[idxC row p]'h).nm = p := by
  have h1 : isN p (row[idxC row p]'h) = true := List.findIdx_getElem (xs := row) (p := isN p) (w := h)
  exact of_decide_eq_true h1
theorem idx_at {row : List CoX} {k : Nat} {c : CoX} (hn : (row.map CoX.nm).Nodup) (hk : row[k]? = some c) : idxC row c.nm = k := by
  have hlt := (List.getElem?_eq_some_iff.1 hk).1
  have he := (List.getElem?_eq_some_iff.1 hk).2
  have hm : c.nm ∈ row.map CoX.nm := List.mem_map.2 ⟨c, List.mem_of_getElem? hk, rfl⟩
  have hi := idx_get hm
  have h1 := idx_nm hi
  have h2 : (row.map CoX.nm)[idxC row c.nm]'(by simpa using hi) = (row.map CoX.nm)[k]'(by simpa using hlt) := by simp [h1, he]
  exact (List.getElem_inj hn).1 h2
/-- Each name's place. -/
def SpecAt (kvs : List KS) (row : List CoX) (k : Nat) : Prop := ∀ q, q < k → ∀ c, row[q]? = some c → lookS kvs c.nm = some (.int .i64 (q : Int))
theorem specAt_put {kvs : List KS} {row : List CoX} {k ck : Nat} {c : CoX} (hn : (row.map CoX.nm).Nodup) (hk : row[k]? = some c) (h : SpecAt kvs row k) : SpecAt (putS kvs c.nm (.int .i64 (k : Int)) ck) row (k + 1) := fun q hq d hd => by
  rw [lookS_put]
  by_cases e : d.nm = c.nm
  · rw [if_pos e]
    have h1 := idx_at hn hd
    have h2 := idx_at hn hk
    rw [e, h2] at h1
    rw [h1]
  · rw [if_neg e]
    have : q ≠ k := fun e2 => by subst e2; rw [hk] at hd; cases hd; exact e rfl
    exact h q (by omega) d hd
theorem specAt_get {kvs : List KS} {row : List CoX} {p : Nm} (hn : (row.map CoX.nm).Nodup) (h : SpecAt kvs row row.length) (hp : p ∈ row.map CoX.nm) : lookS kvs p = some (.int .i64 ((idxC row p : Nat) : Int)) := by
  obtain ⟨c, hc, rfl⟩ := List.mem_map.1 hp
  obtain ⟨q, hq⟩ := List.getElem?_of_mem hc
  rw [h q (List.getElem?_eq_some_iff.1 hq).1 c hq, idx_at hn hq]
end Go.Sl.TrM
namespace Go.Sl.TrM
open Go Go.Sl Go.Sl.BitM Go.Sl.SpM Go.Sl.RsM Go.Sl.ByM Go.Sl.UnM
section
variable {ins : List InX} {row done : List CoX} {od : List OuX} {c : CoX} {o : OuX} {x : InX} {y : CoX}
theorem okC_none (h : c.nm ∉ ins.map InX.nm) : okC ins done c = 6 := by unfold okC; rw [findN_none.2 h]
theorem okC_bad (hf : findN InX.nm ins c.nm = some x) (h : c.nm ∈ done.map CoX.nm ∨ (0 < done.length ∧ c.at_ < lastAt done) ∨ c.at_ < x.at_) : okC ins done c = 2 := by unfold okC; rw [hf]; exact if_pos h
theorem okC_good (hf : findN InX.nm ins c.nm = some x) (h : ¬ (c.nm ∈ done.map CoX.nm ∨ (0 < done.length ∧ c.at_ < lastAt done) ∨ c.at_ < x.at_)) : okC ins done c = 0 := by unfold okC; rw [hf]; exact if_neg h
theorem okC_new (h : okC ins done c = 0) : c.nm ∉ done.map CoX.nm := by
  unfold okC at h
  split at h
  · cases h
  · split at h
    · cases h
    · rename_i hno
      exact fun hm => hno (.inl hm)
theorem rowM_zero {ins : List InX} : ∀ {l done : List CoX}, (rowM ins l done).2 = 0 → (rowM ins l done).2 = 0 ∧ (rowM ins l done).1 = 0
  | [], done, _ => ⟨rfl, rfl⟩
  | c :: l, done, h => by
    rw [rowM] at h ⊢
    split at h
    · rename_i h0
      rw [if_pos h0]
      exact rowM_zero h
    · rename_i h0
      exact absurd h h0
theorem okO_none (h : o.nm ∉ row.map CoX.nm) : okO row od o = 6 := by unfold okO; rw [findN_none.2 h]
theorem okO_bad (hf : findN CoX.nm row o.nm = some y) (h : o.nm ∈ od.map OuX.nm ∨ o.at_ < y.at_) : okO row od o = 2 := by unfold okO; rw [hf]; exact if_pos h
theorem okO_good (hf : findN CoX.nm row o.nm = some y) (h : ¬ (o.nm ∈ od.map OuX.nm ∨ o.at_ < y.at_)) : okO row od o = 0 := by unfold okO; rw [hf]; exact if_neg h
/-- What a map of words holds. -/
def SpecH (kvs : List KS) (l : List OuX) : Prop := ∀ p, lookS kvs p = if p ∈ l.map OuX.nm then some (.bool true) else none
theorem specH_nil : SpecH [] [] := fun p => rfl
theorem specH_snoc {kvs : List KS} {ck : Nat} (h : SpecH kvs od) : SpecH (putS kvs o.nm (.bool true) ck) (od ++ [o]) := fun p => by
  rw [lookS_put, h p, List.map_append]
  by_cases e : p = o.nm
  · rw [if_pos e, if_pos (by rw [e]; simp)]
  · rw [if_neg e]
    by_cases e2 : p ∈ od.map OuX.nm
    · rw [if_pos e2, if_pos (List.mem_append.2 (.inl e2))]
    · rw [if_neg e2, if_neg (by
        intro hm
        rcases List.mem_append.1 hm with hm | hm
        · exact e2 hm
        · simp at hm; exact e hm)]
theorem specH_get {kvs : List KS} (h : SpecH kvs od) (p : Nm) : (lookS kvs p).getD (.bool false) = .bool (decide (p ∈ od.map OuX.nm)) := by
  rw [h p]
  by_cases e : p ∈ od.map OuX.nm
  · rw [if_pos e, decide_eq_true e]; rfl
  · rw [if_neg e, decide_eq_false e]; rfl
end
end Go.Sl.TrM
namespace Go.Sl.TrM
open Go Go.Sl Go.Sl.BitM Go.Sl.SpM Go.Sl.RsM Go.Sl.ByM Go.Sl.UnM
theorem sameM_step {row : List CoX} {rs : List Rp} {out : List OuX} {k : Nat} {o : OuX} (h : out[k]? = some o) (e : o.rp = rs.getD (idxC row o.nm) (plain 0 0 0)) : sameM row rs (out.drop k) k = sameM row rs (out.drop (k + 1)) (k + 1) := by
  rw [drop_cons h, sameM, if_pos e]
theorem sameM_stop {row : List CoX} {rs : List Rp} {out : List OuX} {k : Nat} {o : OuX} (h : out[k]? = some o) (e : ¬ o.rp = rs.getD (idxC row o.nm) (plain 0 0 0)) : sameM row rs (out.drop k) k = (k, 4) := by
  rw [drop_cons h, sameM, if_neg e]
end Go.Sl.TrM
namespace Go.Sl
open Go
section
variable {P : Program} {W0 w : World} {L : List HProp} {ρ : Operand → Value} {d : Option Nat} {ty : TypeId} {pos : String} {af : Array Edge} {g : Option (Nat × Bool)} {kt : TypeId} {k1 k2 : IntKind}
theorem eff_lookupS {t et b : Nat} {p : Int × Int} {x y : Operand} {z v : Value} {kvs : List KS} {ck : Nat} (hk : PairKey P kt k1 k2) (H : On W0 (MapS b k1 k2 kvs ck :: L) w) (hU : P.underlying t = some (.map kt et)) (hZ : ∀ w, (zeroValue et).run P w = .ok z w) (hx : ρ x = .map (some b)) (hy : ρ y = keyS k1 k2 p)
    (hv : (lookS kvs p).getD z = v) : Eff P ρ ⟨d, .lookup t x y false, ty, pos, af, g⟩ w (fun v' w' => v' = v ∧ On W0 (MapS b k1 k2 kvs ck :: L) w') :=
  .inl ⟨v, w, run_lookupS hk H.mapSC.2 hU hZ hx hy hv, rfl, H⟩
end
end Go.Sl
