/-
  Scopes; append within the capacity; a front of an owned slice; clear behind its end; elements of rows of structs; assertions that hide what they own.
-/
import Derived.Test.YtlahgihjjabgmaaSlBytes
import Derived.Scope
namespace Go.Sl
open Go
set_option linter.unusedVariables false

@[reducible] def scopeQ (Q : Exit → Env → World → Prop) : Exit → Env → World → Prop
  | .goto _, _, _ => False
  | e, env, w => Q e env w
theorem W.scope {P : Program} {N : Nat} {env : Env} {w : World} {Q : Exit → Env → World → Prop} {c : Code} (h : W P N c (scopeQ Q) env w) : W P N (.scope c) Q env w := fun a r => by
  refine wp_scope_straight (wp_mono (h a r) ?_)
  rintro e a' w' ⟨env', r', q⟩
  cases e with
  | goto l => exact q.elim
  | _ => exact ⟨env', r', q⟩

section
variable {P : Program} {W0 w : World} {L : List HProp} {ρ : Operand → Value} {d : Option Nat} {ty : TypeId} {pos : String} {af : Array Edge} {g : Option (Nat × Bool)}

theorem Own.addr {size n c : Nat} {a : Option Addr} {xs : List Value} (H : On W0 (Own size (.slice a n c) n xs :: L) w) (hn : 0 < n) : ∃ b o, a = some ⟨b, o, none⟩ := by
  rcases (Own.openOn H).2 with ⟨h0, _⟩ | ⟨gb, off, cap, cur, e, fr, hv, _⟩
  · omega
  · simp only [Value.slice.injEq] at hv
    exact ⟨gb, off, hv.1⟩

/-- A front of an owned slice, with the whole capacity. -/
theorem Own.front {size n c k : Nat} {a : Option Addr} {xs : List Value} (H : On W0 (Own size (.slice a n c) n xs :: L) w) (hk : k ≤ n) : On W0 (Own size (.slice a k c) k (xs.take (k * size)) :: L) w := H.head fun h ⟨hl, o⟩ => by
  have hks : k * size ≤ n * size := Nat.mul_le_mul_right _ hk
  refine ⟨by rw [List.length_take]; omega, ?_⟩
  rcases o with ⟨rfl, ao, hv⟩ | ⟨g, off, cap, cur, e, fr, hv, h1, h2, h3, h4, h5, h6⟩
  · simp only [Value.slice.injEq] at hv
    obtain ⟨rfl, _, rfl⟩ := hv
    have : k = 0 := by omega
    subst this
    exact .inl ⟨rfl, _, rfl⟩
  · simp only [Value.slice.injEq] at hv
    obtain ⟨rfl, _, rfl⟩ := hv
    refine .inr ⟨g, off, c, cur, e, fr, rfl, by omega, h2, h3, ?_, h5, h6⟩
    rw [← h4, List.take_take, Nat.min_eq_left hks]

/-- append within the capacity: where it lies is known. -/
theorem eff_appendFits {t e size n m cap : Nat} {y : Value} {a : Option Addr} {xs ys : List Value} {sx sy : Operand} (H : On W0 (Own size (.slice a n cap) n xs :: L) w) (C : Cells size y m ys (hp w)) (hs : ρ sx = .slice a n cap) (hy : ρ sy = y)
    (hU : P.underlying t = some (.slice e)) (hS : ∀ w, (sizeOf e).run P w = .ok size w) (hroom : n + m ≤ cap) (h1c : ∀ u ∈ ys, u.oneCell' = true) :
    Eff P ρ ⟨d, .call { callee := .builtin .append, args := #[sx, sy], argTypes := #[t, t] }, ty, pos, af, g⟩ w (fun v w' => v = .slice a (n + m) cap ∧ On W0 (Own size (.slice a (n + m) cap) (n + m) (xs ++ ys) :: L) w') := by
  have hf := run_firstCells_C (P := P) C
  have hly := lenOf_C (P := P) (w := w) C
  have hylen : ys.length = m * size := C.1
  obtain ⟨hxlen, hO⟩ := Own.openOn H
  rcases hO with ⟨rfl, ao, hv⟩ | ⟨gb, off, cap', cur, e', fr, hv, hnc, hcm, hfit, htake, hfree, Hb⟩
  · simp only [Value.slice.injEq] at hv
    obtain ⟨rfl, _, rfl⟩ := hv
    have hm : m = 0 := by omega
    subst hm
    have hy0 : ys = [] := List.eq_nil_of_length_eq_zero (by simpa using hylen)
    have hx0 : xs = [] := List.eq_nil_of_length_eq_zero (by simpa using hxlen)
    subst hy0; subst hx0
    refine .inl ⟨.slice a 0 0, w, ?_, rfl, H⟩
    cases a <;> simp [execOp, resolve, invoke, builtin, hs, hy, Builtin.append_, run_underlying hU, hS, hly, hf, storeCells]
  · simp only [Value.slice.injEq] at hv
    obtain ⟨rfl, _, rfl⟩ := hv
    have hle : (n + m) * size ≤ cap * size := Nat.mul_le_mul_right _ hroom
    rw [Nat.add_mul] at hle
    have hfit' : off + n * size + ys.length ≤ cur.length := by rw [hylen]; omega
    obtain ⟨w', hst, hO'⟩ := Hb.storeCells (P := P) 0 rfl (off + n * size) ys hfit' h1c (fun k h1 h2 => free_ok hfree (by omega))
    refine .inl ⟨.slice (some ⟨gb, off, none⟩) (n + m) cap, w', ?_, rfl, ?_⟩
    · simp [execOp, resolve, invoke, builtin, hs, hy, Builtin.append_, run_underlying hU, hS, hly, hroom, hf, Addr.add_mk, hst]
    · have e1 := take_splice (m := (n + m) * size) htake hxlen hfit' (by rw [hylen, Nat.add_mul])
      exact Own.closeOn (e := e') (fr := fr) hO' (by simp [hxlen, hylen, Nat.add_mul]) hroom hcm (by rw [splice_length hfit']; exact hfit) e1 (by rw [splice_length hfit']; exact hfree)

theorem take_splice_behind {l : List Value} {o k : Nat} {ys : List Value} {m : Nat} (hm : o + m ≤ k) (hk : k ≤ l.length) : ((splice l k ys).drop o).take m = (l.drop o).take m := by
  apply List.ext_getElem?
  intro j
  simp only [List.getElem?_take]
  by_cases hj : j < m
  · rw [if_pos hj, if_pos hj, List.getElem?_drop, List.getElem?_drop]
    unfold splice
    rw [List.append_assoc, List.getElem?_append_left (by rw [List.length_take]; omega), List.getElem?_take, if_pos (by omega)]
  · rw [if_neg hj, if_neg hj]

/-- clear of what lies between a slice's end and its capacity. -/
theorem eff_clearBehind {t e size n c m : Nat} {a : Option Addr} {xs : List Value} {z : Value} {sx : Operand} (H : On W0 (Own size (.slice a n c) n xs :: L) w) (h1 : n ≤ m) (h2 : m ≤ c) (hs : ρ sx = sliced a n m c size)
    (hU : P.underlying t = some (.slice e)) (hZ : ∀ w, (zeroValue e).run P w = .ok z w) (hz : z.cells.size = size) (hz1 : ∀ v ∈ z.cells.toList, v.oneCell' = true) :
    Eff P ρ ⟨d, .call { callee := .builtin .clear, args := #[sx], argTypes := #[t] }, ty, pos, af, g⟩ w (fun v w' => On W0 (Own size (.slice a n c) n xs :: L) w') := by
  obtain ⟨hxlen, hO⟩ := Own.openOn H
  rcases hO with ⟨rfl, ao, hv⟩ | ⟨gb, off, cap', cur, e', fr, hv, hnc, hcm, hfit, htake, hfree, Hb⟩
  · simp only [Value.slice.injEq] at hv
    obtain ⟨rfl, _, rfl⟩ := hv
    have hm : m = 0 := by omega
    subst hm
    refine .inl ⟨.tuple #[], w, ?_, H⟩
    cases a <;> simp [execOp, resolve, invoke, builtin, hs, sliced, Builtin.clear_, run_underlying hU]
  · simp only [Value.slice.injEq] at hv
    obtain ⟨rfl, _, rfl⟩ := hv
    by_cases hnm : m = n
    · subst hnm
      refine .inl ⟨.tuple #[], w, ?_, H⟩
      by_cases hcm' : c = m <;> simp [execOp, resolve, invoke, builtin, hs, sliced, Builtin.clear_, run_underlying hU, hcm']
    · have hcn : ¬ c = n := by omega
      have hlen : (Builtin.zeroCells z.cells (m - n)).toList.length = (m - n) * size := by simp [size_zeroCells, hz]
      have hms : n * size + (m - n) * size = m * size := by rw [← Nat.add_mul]; congr 1; omega
      have hmc : m * size ≤ c * size := Nat.mul_le_mul_right _ h2
      have hone : ∀ v ∈ (Builtin.zeroCells z.cells (m - n)).toList, v.oneCell' = true := by
        intro v hv
        unfold Builtin.zeroCells at hv
        simp only [Array.toList_map, List.mem_map] at hv
        obtain ⟨i, hi, rfl⟩ := hv
        simp at hi
        by_cases hzs : z.cells.size = 0
        · rw [hzs] at hi; simp at hi
        · have hlt : i % z.cells.size < z.cells.size := Nat.mod_lt _ (by omega)
          rw [getElem!_pos z.cells _ hlt]
          exact hz1 _ (by simp)
      obtain ⟨w', hst, hO'⟩ := Hb.storeCells (P := P) 0 rfl (off + n * size) (Builtin.zeroCells z.cells (m - n)).toList (by rw [hlen]; omega) hone (fun k k1 k2 => free_ok hfree (by rw [hlen] at k2; omega))
      refine .inl ⟨.tuple #[], w', ?_, ?_⟩
      · obtain ⟨q, hq⟩ : ∃ q, m - n = q + 1 := ⟨m - n - 1, by omega⟩
        rw [hq] at hst
        simp [execOp, resolve, invoke, builtin, hs, sliced, hcn, Builtin.clear_, run_underlying hU, Addr.add_mk, hq, hZ, hst]
      · refine Own.closeOn (e := e') (fr := fr) hO' hxlen hnc hcm (by rw [splice_length (by rw [hlen]; omega)]; exact hfit) ?_ (by rw [splice_length (by rw [hlen]; omega)]; exact hfree)
        rw [take_splice_behind (Nat.le_refl _) (by omega)]
        exact htake

/-- An element of a row, by its cells. -/
theorem Cells.elem {size n c b o i : Nat} {xs vs : List Value} (C : Cells size (.slice (some ⟨b, o, none⟩) n c) n xs (hp w)) (hi : i < n) (hv : (xs.drop (i * size)).take size = vs) : ∀ j u, vs[j]? = some u → w.cell? ⟨b, o + i * size + j, none⟩ = some u := by
  intro j u hj
  subst hv
  rw [List.getElem?_take] at hj
  split at hj
  · rw [List.getElem?_drop] at hj
    rw [Nat.add_assoc]
    exact C.cell rfl (by omega) hj
  · cases hj

theorem drop_flatMap {α : Type} (f : α → List Value) (size : Nat) (hf : ∀ x, (f x).length = size) : ∀ (l : List α) (i : Nat) (x : α), l[i]? = some x → ((l.flatMap f).drop (i * size)).take size = f x := by
  intro l
  induction l with
  | nil => intro i x h; simp at h
  | cons y l ih =>
    intro i x h
    rw [List.flatMap_cons]
    cases i with
    | zero => simp at h; subst h; rw [Nat.zero_mul, List.drop_zero, ← hf y]; exact List.take_left
    | succ i =>
      simp at h
      rw [Nat.succ_mul, Nat.add_comm, ← List.drop_drop]
      have : ((f y ++ l.flatMap f).drop size) = l.flatMap f := by rw [← hf y]; exact List.drop_left
      rw [this]
      exact ih i x h
theorem flatMap_length {α : Type} (f : α → List Value) (size : Nat) (hf : ∀ x, (f x).length = size) (l : List α) : (l.flatMap f).length = l.length * size := by
  induction l with
  | nil => simp
  | cons y l ih => rw [List.flatMap_cons, List.length_append, ih, hf, List.length_cons, Nat.succ_mul, Nat.add_comm]
theorem take_flatMap {α : Type} (f : α → List Value) (size : Nat) (hf : ∀ x, (f x).length = size) : ∀ (l : List α) (i : Nat), (l.flatMap f).take (i * size) = (l.take i).flatMap f := by
  intro l
  induction l with
  | nil => intro i; simp
  | cons y l ih =>
    intro i
    cases i with
    | zero => simp
    | succ i =>
      rw [List.take_succ_cons, List.flatMap_cons, List.flatMap_cons, Nat.succ_mul, Nat.add_comm, List.take_add, ← ih]
      have e1 : (f y ++ l.flatMap f).take size = f y := by rw [← hf y]; exact List.take_left
      have e2 : (f y ++ l.flatMap f).drop size = l.flatMap f := by rw [← hf y]; exact List.drop_left
      rw [e1, e2]
theorem dropAll_flatMap {α : Type} (f : α → List Value) (size : Nat) (hf : ∀ x, (f x).length = size) : ∀ (l : List α) (i : Nat), (l.flatMap f).drop (i * size) = (l.drop i).flatMap f := by
  intro l
  induction l with
  | nil => intro i; simp
  | cons y l ih =>
    intro i
    cases i with
    | zero => simp
    | succ i =>
      rw [List.drop_succ_cons, List.flatMap_cons, Nat.succ_mul, Nat.add_comm, ← List.drop_drop]
      have e2 : (f y ++ l.flatMap f).drop size = l.flatMap f := by rw [← hf y]; exact List.drop_left
      rw [e2]
      exact ih i

/-- A new block as an owned slice. -/
theorem Own.ofBlk {b e n size : Nat} {l : List Value} (H : On W0 (blk b l e :: L) w) (hl : l.length = n * size) (hm : n ≤ maxLen) : On W0 (Own size (.slice (some ⟨b, 0, none⟩) n n) n l :: L) w :=
  Own.closeOn H hl (Nat.le_refl _) hm (by omega) (by rw [List.drop_zero, List.take_of_length_le (by omega)]) (.inl rfl)
theorem Cells.ofBlk {b e n size : Nat} {l : List Value} {h : Hp} (H : h b = some (obj l e)) (hl : l.length = n * size) (hm : n ≤ maxLen) : Cells size (.slice (some ⟨b, 0, none⟩) n n) n l h :=
  ⟨hl, _, n, rfl, Nat.le_refl _, hm, fun h => (by cases h), fun _ => ⟨b, 0, rfl, fun j u hj => by unfold cellH; rw [H]; simpa using hj⟩⟩
theorem On.cellsB {b e n size : Nat} {l : List Value} (H : On W0 L w) [i : HasBlk L b l e (0, 0)] (hl : l.length = n * size) (hm : n ≤ maxLen) : Cells size (.slice (some ⟨b, 0, none⟩) n n) n l (hp w) := Cells.ofBlk (i.out _ H.sat) hl hm

/-! ### What hides: an existential, a fact, a list -/
def Ex {ι : Type} (G : ι → HProp) : HProp := fun h => ∃ x, G x h
def Fact (p : Prop) : HProp := fun _ => p
theorem On.ex {ι : Type} {G : ι → HProp} (H : On W0 (Ex G :: L) w) : ∃ x, On W0 (G x :: L) w := H.unexists
theorem On.exI {ι : Type} {G : ι → HProp} (x : ι) (H : On W0 (G x :: L) w) : On W0 (Ex G :: L) w := H.head fun _ h => ⟨x, h⟩
/-- A fact and a list of parts as one assertion. -/
def Pack (p : Prop) (M : List HProp) : HProp := fun h => p ∧ Sat M h
theorem On.unpack {p : Prop} {M : List HProp} (H : On W0 (Pack p M :: L) w) : p ∧ On W0 (M ++ L) w := by
  obtain ⟨h1, h2, d, s1, s2, ⟨hp, a⟩, r⟩ := H.sat
  exact ⟨hp, H.os, H.output, H.tape, H.size, Sat.unappend d s1 s2 a r⟩
theorem On.pack {p : Prop} {M : List HProp} (hp : p) (H : On W0 (M ++ L) w) : On W0 (Pack p M :: L) w := by
  obtain ⟨h1, h2, d, s1, s2, a, r⟩ := Sat.append H.sat
  exact ⟨H.os, H.output, H.tape, H.size, h1, h2, d, s1, s2, ⟨hp, a⟩, r⟩
end
end Go.Sl
