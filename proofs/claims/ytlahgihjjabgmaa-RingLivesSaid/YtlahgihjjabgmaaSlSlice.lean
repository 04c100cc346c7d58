/-
  Slices: append, copy, clear, make, cuts.
-/
import Derived.Test.YtlahgihjjabgmaaSlEff
namespace Go.Sl
open Go
set_option linter.unusedVariables false

section
variable {P : Program} {W0 w : World} {L : List HProp} {ρ : Operand → Value} {d : Option Nat} {ty : TypeId} {pos : String} {af : Array Edge} {g : Option (Nat × Bool)}

theorem run_firstCells_C {size m : Nat} {y : Value} {ys : List Value} (C : Cells size y m ys (hp w)) : (Builtin.firstCells size m y).run P w = .ok ys.toArray w := by
  obtain ⟨hl, ao, cap, rfl, h1, h2, h3, h4⟩ := C
  by_cases hm : m = 0
  · subst hm
    have : ys = [] := List.eq_nil_of_length_eq_zero (by simpa using hl)
    subst this
    cases ao <;> simp [Builtin.firstCells, loadCells, loadCellsFrom]
  · obtain ⟨b, o, rfl, r⟩ := h4 (by omega)
    exact run_firstCells_some (P := P) w size m ⟨b, o, none⟩ m cap ys hl (fun j v hv => by rw [Addr.add_mk, ← cellH_hp]; exact r j v hv)

theorem lenOf_C {size m : Nat} {y : Value} {ys : List Value} {h : Hp} (C : Cells size y m ys h) : (Builtin.lenOf y).run P w = .ok m w := by
  obtain ⟨hl, ao, cap, rfl, _⟩ := C
  simp [Builtin.lenOf]

theorem free0 (k : Nat) : free (0, 0) k = true := by
  unfold free
  rw [show Nat.ble (k + 1) (0, 0).2 = false from rfl, Bool.and_false]
  rfl

/-- What a slice that has come out of an append is. -/
def Grown (size : Nat) (n : Nat) (xs : List Value) (W0 : World) (L : List HProp) (v : Value) (w' : World) : Prop :=
  ∃ a c, v = .slice a n c ∧ On W0 (Own size (.slice a n c) n xs :: L) w'

theorem take_splice {l : List Value} {o : Nat} {xs ys : List Value} {k m : Nat} (hk : (l.drop o).take k = xs) (hx : xs.length = k) (hl : o + k + ys.length ≤ l.length) (hm : m = k + ys.length) :
    ((splice l (o + k) ys).drop o).take m = xs ++ ys := by
  subst hm
  unfold splice
  have e1 : l.take (o + k) = l.take o ++ xs := by
    rw [← hk, List.take_add]
  have hlo : (l.take o).length = o := by rw [List.length_take]; omega
  rw [e1]
  simp only [List.append_assoc]
  conv => lhs; arg 2; arg 1; rw [← hlo]
  rw [List.drop_left]
  rw [← List.append_assoc]
  have : k + ys.length = (xs ++ ys).length := by simp [hx]
  rw [this]
  exact List.take_left

/-- An owned slice is an empty one that owns nothing, or lies in a block of its own. -/
theorem Own.openOn {size n : Nat} {v : Value} {xs : List Value} (H : On W0 (Own size v n xs :: L) w) : xs.length = n * size ∧
    ((n = 0 ∧ ∃ ao, v = .slice ao 0 0) ∨ ∃ gb off cap cur e fr, v = .slice (some ⟨gb, off, none⟩) n cap ∧ n ≤ cap ∧ cap ≤ maxLen ∧ off + cap * size ≤ cur.length ∧ (cur.drop off).take (n * size) = xs ∧
      (fr.1 = fr.2 ∨ cur.length ≤ fr.1) ∧ On W0 (blk gb cur e fr :: L) w) := by
  obtain ⟨h1, h2, dd, s1, s2, ⟨hl, a⟩, r⟩ := H.sat
  refine ⟨hl, a.imp id ?_⟩
  rintro ⟨gb, off, cap, cur, e, fr, h3, h4, h5, h6, h7, h8, h9⟩
  exact ⟨gb, off, cap, cur, e, fr, h3, h4, h5, h6, h7, h8, H.os, H.output, H.tape, H.size, h1, h2, dd, s1, s2, h9, r⟩
theorem Own.closeOn {size n : Nat} {gb off cap : Nat} {cur xs : List Value} {e : Nat} {fr : Nat × Nat} (H : On W0 (blk gb cur e fr :: L) w) (hx : xs.length = n * size) (h1 : n ≤ cap) (h2 : cap ≤ maxLen) (h3 : off + cap * size ≤ cur.length)
    (h4 : (cur.drop off).take (n * size) = xs) (h5 : fr.1 = fr.2 ∨ cur.length ≤ fr.1) : On W0 (Own size (.slice (some ⟨gb, off, none⟩) n cap) n xs :: L) w :=
  H.head fun h hb => ⟨hx, .inr ⟨gb, off, cap, cur, e, fr, rfl, h1, h2, h3, h4, h5, hb⟩⟩

/-- append(s, y...): s is owned, y is read (it may lie in s's own block). -/
theorem append_own {t e size n m bytes : Nat} {v y z : Value} {xs ys : List Value} {i : TypeInfo} {ty : TypeId} (H : On W0 (Own size v n xs :: L) w) (C : Cells size y m ys (hp w))
    (hU : P.underlying t = some (.slice e)) (hI : P.info? e = some i) (hsz : i.size = size) (hby : i.bytes = bytes) (hz : i.zero = some z) (hzs : z.cells.size = size)
    (h63 : n + m ≤ maxLen) (hb : (n + m) * bytes ≤ 140737488355328) (h1c : ∀ u ∈ ys, u.oneCell' = true) :
    ∃ v' w', (Builtin.append_ #[t, t] ty #[v, y]).run P w = .ok v' w' ∧ Grown size (n + m) (xs ++ ys) W0 L v' w' := by
  subst hsz
  subst hby
  have hf := run_firstCells_C (P := P) C
  have hly := lenOf_C (P := P) (w := w) C
  have hylen : ys.length = m * i.size := C.1
  have hO := H.get 0 rfl (Own_mono _ _ _ _)
  have Cx := hO.cells
  have hxlen : xs.length = n * i.size := hO.1
  have hm63 : ((n + m : Nat) : Int) ≤ 9223372036854775807 := by simp only [maxLen] at h63; omega
  -- a new row
  have grow : ∀ (ao : Option Addr) (cap : Nat), v = .slice ao n cap → cap < n + m → ∃ v' w', (Builtin.append_ #[t, t] ty #[v, y]).run P w = .ok v' w' ∧ Grown i.size (n + m) (xs ++ ys) W0 L v' w' := by
    intro ao cap hv hcap
    have hne : ¬ (n + m ≤ cap) := by omega
    have h63' : ¬ (9223372036854775807 < ((n : Int) + (m : Int))) := by omega
    have h48' : ¬ (281474976710656 < Builtin.nextslicecap (n + m) cap * i.bytes) := by
      have := growslice_fits (old := cap) (by omega) hb; omega
    have Cd : Cells i.size y m ys (hp w.drew) := C
    have Cxd : Cells i.size v n xs (hp w.drew) := Cx
    have hfd := run_firstCells_C (P := P) Cd
    have hfx := run_firstCells_C (P := P) Cxd
    subst hv
    refine ⟨.slice (some ⟨w.heap.size, 0, none⟩) (n + m) (grownCap w (n + m) cap e), w.drew.alloc (.cells (xs.toArray ++ ys.toArray ++ Builtin.zeroCells z.cells (grownCap w (n + m) cap e - (n + m))) e), ?_, ?_⟩
    · simp [Builtin.append_, run_underlying hU, sizeOf, typeInfo, zeroValue, hI, hz, hly, hne, h63', h48', Question.forced, hfd, hfx, newRow, grownCap]
      congr 2
      apply Array.ext'
      simp [List.append_assoc]
    · refine ⟨_, _, rfl, ?_⟩
      have hge := grownCap_ge w (n + m) cap e
      have hcm : grownCap w (n + m) cap e ≤ maxLen := grownCap_le_maxLen w (n + m) cap e h63
      have hA := (H.tail.drew).alloc (.cells (xs.toArray ++ ys.toArray ++ Builtin.zeroCells z.cells (grownCap w (n + m) cap e - (n + m))) e)
      refine hA.head fun h hh => ⟨by simp [hxlen, hylen, Nat.add_mul], .inr ⟨w.heap.size, 0, grownCap w (n + m) cap e, xs ++ ys ++ (Builtin.zeroCells z.cells (grownCap w (n + m) cap e - (n + m))).toList, e, (0, 0), rfl, hge, hcm, ?_, ?_, ?_, ?_⟩⟩
      · simp only [List.length_append, hxlen, hylen, Array.length_toList, size_zeroCells, hzs, ← Nat.add_mul]
        rw [Nat.zero_add]
        apply Nat.le_of_eq; congr 1; omega
      · rw [List.drop_zero]
        have : (n + m) * i.size = (xs ++ ys).length := by simp [hxlen, hylen, Nat.add_mul]
        rw [this]
        exact List.take_left
      · exact .inl rfl
      · have hh' : h w.drew.heap.size = _ := hh
        rw [show w.drew.heap.size = w.heap.size from rfl] at hh'
        rw [hh']
        simp [obj]
  rcases (Own.openOn H).2 with ⟨rfl, ao, rfl⟩ | ⟨gb, off, cap, cur, e', fr, rfl, hnc, hcm, hfit, htake, hfree, Hb⟩
  · by_cases hm : m = 0
    · subst hm
      have hy0 : ys = [] := List.eq_nil_of_length_eq_zero (by simpa using hylen)
      have hx0 : xs = [] := List.eq_nil_of_length_eq_zero (by simpa using hxlen)
      subst hy0; subst hx0
      refine ⟨.slice ao 0 0, w, ?_, ⟨ao, 0, rfl, H⟩⟩
      cases ao <;> simp [Builtin.append_, run_underlying hU, sizeOf, typeInfo, hI, hly, hf, storeCells]
    · exact grow ao 0 rfl (by omega)
  · by_cases hroom : n + m ≤ cap
    · have hfit' : off + n * i.size + ys.length ≤ cur.length := by
        rw [hylen]
        have : (n + m) * i.size ≤ cap * i.size := Nat.mul_le_mul_right _ hroom
        rw [Nat.add_mul] at this
        omega
      have hcapm : off + n * i.size + ys.length ≤ off + cap * i.size := by
        rw [hylen]
        have : (n + m) * i.size ≤ cap * i.size := Nat.mul_le_mul_right _ hroom
        rw [Nat.add_mul] at this
        omega
      obtain ⟨w', hst, hO'⟩ := Hb.storeCells (P := P) 0 rfl (off + n * i.size) ys hfit' h1c (fun k h1 h2 => free_ok hfree (by omega))
      refine ⟨.slice (some ⟨gb, off, none⟩) (n + m) cap, w', ?_, _, _, rfl, ?_⟩
      · simp [Builtin.append_, run_underlying hU, sizeOf, typeInfo, hI, hly, hroom, hf, Addr.add_mk, hst]
      · have e1 := take_splice (m := (n + m) * i.size) htake hxlen hfit' (by rw [hylen, Nat.add_mul])
        exact Own.closeOn (e := e') (fr := fr) hO' (by simp [hxlen, hylen, Nat.add_mul]) hroom hcm (by rw [splice_length hfit']; exact hfit) e1 (by rw [splice_length hfit']; exact hfree)
    · exact grow (some ⟨gb, off, none⟩) cap rfl (by omega)

/-- 'x = append(s, y...)' as an effect. -/
theorem eff_append {t e size n m bytes : Nat} {v y z : Value} {xs ys : List Value} {i : TypeInfo} {sx sy : Operand} (H : On W0 (Own size v n xs :: L) w) (C : Cells size y m ys (hp w)) (hs : ρ sx = v) (hy : ρ sy = y)
    (hU : P.underlying t = some (.slice e)) (hI : P.info? e = some i) (hsz : i.size = size) (hby : i.bytes = bytes) (hz : i.zero = some z) (hzs : z.cells.size = size)
    (h63 : n + m ≤ maxLen) (hb : (n + m) * bytes ≤ 140737488355328) (h1c : ∀ u ∈ ys, u.oneCell' = true) :
    Eff P ρ ⟨d, .call { callee := .builtin .append, args := #[sx, sy], argTypes := #[t, t] }, ty, pos, af, g⟩ w (Grown size (n + m) (xs ++ ys) W0 L) := by
  obtain ⟨v', w', hr, hG⟩ := append_own (ty := ty) H C hU hI hsz hby hz hzs h63 hb h1c
  refine .inl ⟨v', w', ?_, hG⟩
  simp [execOp, resolve, invoke, builtin, hs, hy, hr]
end
end Go.Sl
