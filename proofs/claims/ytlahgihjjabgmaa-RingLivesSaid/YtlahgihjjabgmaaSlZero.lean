/-
  append(s, make([]T, n)...): the model's form with a number.
-/
import Derived.Test.YtlahgihjjabgmaaSlStr
import Derived.Test.YtlahgihjjabgmaaSlMake
namespace Go.Sl
open Go
set_option linter.unusedVariables false
set_option linter.unusedSimpArgs false
section
variable {P : Program} {W0 w : World} {L L' : List HProp} {ρ : Operand → Value} {d : Option Nat} {ty : TypeId} {pos : String} {af : Array Edge} {g : Option (Nat × Bool)}
theorem append_zeros {t t2 e size n m bytes : Nat} {v z : Value} {xs ys : List Value} {i : TypeInfo} {ty : TypeId} (H : On W0 (Own size v n xs :: L) w) 
    (hU : P.underlying t = some (.slice e)) (hU2 : P.underlying t2 = some (.int .i64)) (hys : ys = (Builtin.zeroCells z.cells m).toList) (hI : P.info? e = some i) (hsz : i.size = size) (hby : i.bytes = bytes) (hz : i.zero = some z) (hzs : z.cells.size = size) (hone : i.size = 1)
    (h63 : n + m ≤ maxLen) (hb : (n + m) * bytes ≤ 140737488355328) (h1c : ∀ u ∈ ys, u.oneCell' = true) :
    ∃ v' w', (Builtin.append_ #[t, t2] ty #[v, .int .i64 (m : Int)]).run P w = .ok v' w' ∧ Grown size (n + m) (xs ++ ys) W0 L v' w' := by
  subst hsz
  subst hby
  have hylen : ys.length = m * i.size := by rw [hys]; simp [size_zeroCells, hzs]
  have hw1 : IntKind.i64.wrap (m : Int) = (m : Int) := IntWalk.i64_in _ ⟨by omega, by simp only [maxLen] at h63; omega⟩
  have hneg : ¬ ((m : Int) < 0) := by omega
  have hw0 : IntKind.i64.wrap 0 = 0 := by decide
  have hbig : ¬ ((281474976710656 : Int) < (m : Int) * (i.bytes : Int)) := by
    have h1 : m * i.bytes ≤ (n + m) * i.bytes := Nat.mul_le_mul_right _ (by omega)
    have h2 : (m : Int) * (i.bytes : Int) = ((m * i.bytes : Nat) : Int) := by simp
    rw [h2]; omega
  have happ : ∀ w : World, (if m * i.size = 0 then (pure #[] : Sem (Array Value)) else do pure (Builtin.zeroCells (← zeroValue e).cells m)).run P w = .ok ys.toArray w := by
    intro w
    by_cases h0 : m * i.size = 0
    · have : ys = [] := List.eq_nil_of_length_eq_zero (by rw [hylen, h0])
      rw [if_pos h0, this]; rfl
    · rw [if_neg h0]
      simp [zeroValue, typeInfo, hI, hz, hys]
  have hO := H.get 0 rfl (Own_mono _ _ _ _)
  have Cx := hO.cells
  have hxlen : xs.length = n * i.size := hO.1
  have hm63 : ((n + m : Nat) : Int) ≤ 9223372036854775807 := by simp only [maxLen] at h63; omega
  -- a new row
  have grow : ∀ (ao : Option Addr) (cap : Nat), v = .slice ao n cap → cap < n + m → ∃ v' w', (Builtin.append_ #[t, t2] ty #[v, .int .i64 (m : Int)]).run P w = .ok v' w' ∧ Grown i.size (n + m) (xs ++ ys) W0 L v' w' := by
    intro ao cap hv hcap
    have hne : ¬ (n + m ≤ cap) := by omega
    have h63' : ¬ (9223372036854775807 < ((n : Int) + (m : Int))) := by omega
    have h48' : ¬ (281474976710656 < Builtin.nextslicecap (n + m) cap * i.bytes) := by
      have := growslice_fits (old := cap) (by omega) hb; omega
    have Cxd : Cells i.size v n xs (hp w.drew) := Cx
    have hfd := happ w.drew
    have hfx := run_firstCells_C (P := P) Cxd
    subst hv
    refine ⟨.slice (some ⟨w.heap.size, 0, none⟩) (n + m) (grownCap w (n + m) cap e), w.drew.alloc (.cells (xs.toArray ++ ys.toArray ++ Builtin.zeroCells z.cells (grownCap w (n + m) cap e - (n + m))) e), ?_, ?_⟩
    · obtain ⟨hnc, _⟩ := Cells.bounds Cx
      have hm0 : ¬ m = 0 := by omega
      have hfx1 := hfx
      rw [hone] at hfx1
      simp [Builtin.append_, run_underlying hU, run_underlying hU2, asInt, asIntOf, sizeOf, typeInfo, zeroValue, hI, hz, hw1, hneg, hbig, hne, h63', h48', Question.forced, hfx1, newRow, grownCap, hm0, hone, hys]
    · refine ⟨_, _, rfl, ?_⟩
      have hge := grownCap_ge w (n + m) cap e
      have hcm : grownCap w (n + m) cap e ≤ maxLen := grownCap_le_maxLen w (n + m) cap e h63
      have hA := (H.tail.drew).alloc (.cells (xs.toArray ++ ys.toArray ++ Builtin.zeroCells z.cells (grownCap w (n + m) cap e - (n + m))) e)
      refine hA.head fun h hh => ⟨by simp [hxlen, hylen, Nat.add_mul], .inr ⟨w.heap.size, 0, grownCap w (n + m) cap e, xs ++ ys ++ (Builtin.zeroCells z.cells (grownCap w (n + m) cap e - (n + m))).toList, e, (0, 0), rfl, hge, hcm, ?_, ?_, ?_, ?_⟩⟩
      · simp only [List.length_append, hxlen, hylen, Array.length_toList, size_zeroCells, hzs, ← Nat.add_mul]
        rw [Nat.zero_add]
        apply Nat.le_of_eq; congr 1; omega
      · rw [List.drop_zero]
        have : (n + m) * i.size = (xs ++ ys).length := by simp [hxlen, hylen, Nat.add_mul]
        rw [this]
        exact List.take_left
      · exact .inl rfl
      · have hh' : h w.drew.heap.size = _ := hh
        rw [show w.drew.heap.size = w.heap.size from rfl] at hh'
        rw [hh']
        simp [obj]
  rcases (Own.openOn H).2 with ⟨rfl, ao, rfl⟩ | ⟨gb, off, cap, cur, e', fr, rfl, hnc, hcm, hfit, htake, hfree, Hb⟩
  · by_cases hm : m = 0
    · subst hm
      have hy0 : ys = [] := List.eq_nil_of_length_eq_zero (by simpa using hylen)
      have hx0 : xs = [] := List.eq_nil_of_length_eq_zero (by simpa using hxlen)
      subst hy0; subst hx0
      refine ⟨.slice ao 0 0, w, ?_, ⟨ao, 0, rfl, H⟩⟩
      cases ao <;> simp [Builtin.append_, run_underlying hU, run_underlying hU2, asInt, asIntOf, sizeOf, typeInfo, hI, storeCells, hw0]
    · exact grow ao 0 rfl (by omega)
  · by_cases hroom : n + m ≤ cap
    · have hfit' : off + n * i.size + ys.length ≤ cur.length := by
        rw [hylen]
        have : (n + m) * i.size ≤ cap * i.size := Nat.mul_le_mul_right _ hroom
        rw [Nat.add_mul] at this
        omega
      have hcapm : off + n * i.size + ys.length ≤ off + cap * i.size := by
        rw [hylen]
        have : (n + m) * i.size ≤ cap * i.size := Nat.mul_le_mul_right _ hroom
        rw [Nat.add_mul] at this
        omega
      obtain ⟨w', hst, hO'⟩ := Hb.storeCells (P := P) 0 rfl (off + n * i.size) ys hfit' h1c (fun k h1 h2 => free_ok hfree (by omega))
      refine ⟨.slice (some ⟨gb, off, none⟩) (n + m) cap, w', ?_, _, _, rfl, ?_⟩
      · have hst1 := hst
        rw [hone, Nat.mul_one] at hst1
        by_cases hm0 : m = 0
        · have hy0 : ys = [] := List.eq_nil_of_length_eq_zero (by rw [hylen, hm0, Nat.zero_mul])
          rw [hy0] at hst1
          have hroom0 : n ≤ cap := by omega
          simp [Builtin.append_, run_underlying hU, run_underlying hU2, asInt, asIntOf, sizeOf, typeInfo, hI, hw0, hm0, hroom0, Addr.add_mk, hone] at hst1 ⊢
          rw [hst1]
          simp
        · have hy1 : (Builtin.zeroCells z.cells m).toList = ys := hys.symm
          simp [Builtin.append_, run_underlying hU, run_underlying hU2, asInt, asIntOf, sizeOf, typeInfo, zeroValue, hz, hI, hw1, hneg, hbig, hroom, Addr.add_mk, hm0, hone, hy1, hst1]
      · have e1 := take_splice (m := (n + m) * i.size) htake hxlen hfit' (by rw [hylen, Nat.add_mul])
        exact Own.closeOn (e := e') (fr := fr) hO' (by simp [hxlen, hylen, Nat.add_mul]) hroom hcm (by rw [splice_length hfit']; exact hfit) e1 (by rw [splice_length hfit']; exact hfree)
    · exact grow (some ⟨gb, off, none⟩) cap rfl (by omega)


theorem eff_appZ {t t2 e n m bytes c : Nat} {a : Option Addr} {z : Value} {xs : List Value} {i : TypeInfo} {sx sy : Operand} (H : On W0 L w) (hs : ρ sx = .slice a n c) (hy : ρ sy = .int .i64 (m : Int)) [p : OwnIn L (.slice a n c) 1 n xs L']
    (hU : P.underlying t = some (.slice e)) (hU2 : P.underlying t2 = some (.int .i64)) (hI : P.info? e = some i) (hsz : i.size = 1) (hby : i.bytes = bytes) (hz : i.zero = some z) (hzs : z.cells = #[z])
    (h63 : n + m ≤ maxLen) (hb : (n + m) * bytes ≤ 140737488355328) (h1c : z.oneCell' = true) :
    Eff P ρ ⟨d, .call { callee := .builtin .append, args := #[sx, sy], argTypes := #[t, t2] }, ty, pos, af, g⟩ w (Grown 1 (n + m) (xs ++ List.replicate m z) W0 L') := by
  obtain ⟨v', w', hr, hG⟩ := append_zeros (ty := ty) (t2 := t2) (m := m) (ys := List.replicate m z) (H.imp p.out) hU hU2 (by rw [hzs, zeroOne]) hI hsz hby hz (by rw [hzs]; rfl) hsz h63 hb (fun u hu => by rw [List.eq_of_mem_replicate hu]; exact h1c)
  refine .inl ⟨v', w', ?_, hG⟩
  simp [execOp, resolve, invoke, builtin, hs, hy, hr]
end
end Go.Sl
