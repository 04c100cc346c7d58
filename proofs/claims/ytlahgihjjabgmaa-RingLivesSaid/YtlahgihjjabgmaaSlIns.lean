/-
  What slices.Insert is made of: a part of an owned slice copied into; a slice made longer by noughts; a slice within its capacity; slices that do not overlap.
-/
import Derived.Test.YtlahgihjjabgmaaSlFunc
import Derived.Lib.Overlaps
import Derived.Laws.Externs
namespace Go.Sl
open Go
set_option linter.unusedVariables false
set_option linter.unusedSimpArgs false
section
variable {P : Program} {W0 w : World} {L : List HProp} {ρ : Operand → Value} {d : Option Nat} {ty : TypeId} {pos : String} {af : Array Edge} {g : Option (Nat × Bool)}
/-- copy into a part of a slice that is owned, elements of any size. -/
theorem eff_copyPart {t e size lo m n c c' k cy : Nat} {b o : Nat} {ay : Option Addr} {xs ys : List Value} {sx sy : Operand} {tys : Array TypeId} (H : On W0 (Own size (.slice (some ⟨b, o, none⟩) n c) n xs :: L) w) (hs : ρ sx = .slice (some ⟨b, o + lo * size, none⟩) m c') (hy : ρ sy = .slice ay k cy) (C : Cells size (.slice ay k cy) k ys (hp w))
    (ht : tys[0]? = some t) (hU : P.underlying t = some (.slice e)) (hS : ∀ w, (sizeOf e).run P w = .ok size w) (hlo : lo + m ≤ n) (h1c : ∀ u ∈ ys.take (min k m * size), u.oneCell' = true) :
    Eff P ρ ⟨d, .call { callee := .builtin .copy, args := #[sx, sy], argTypes := tys }, ty, pos, af, g⟩ w (fun v w' => v = .int .i64 ((min k m : Nat) : Int) ∧ On W0 (Own size (.slice (some ⟨b, o, none⟩) n c) n (splice xs (lo * size) (ys.take (min k m * size))) :: L) w') := by
  have hml := maxLen_eq
  obtain ⟨hxl, hO⟩ := Own.openOn H
  have hyl : ys.length = k * size := C.1
  have hf := run_firstCells_C (P := P) (C.front (k := min k m) (Nat.min_le_left _ _))
  rw [firstCells_len (k' := k) (c' := cy)] at hf
  have hly := lenOf_C (P := P) (w := w) C
  have hmk : min k m ≤ m := Nat.min_le_right _ _
  have hmks : min k m * size ≤ m * size := Nat.mul_le_mul_right _ hmk
  have hmkk : min k m * size ≤ k * size := Nat.mul_le_mul_right _ (Nat.min_le_left _ _)
  have hlon : lo * size + m * size ≤ n * size := by rw [← Nat.add_mul]; exact Nat.mul_le_mul_right _ hlo
  have hlt : (ys.take (min k m * size)).length = min k m * size := by rw [List.length_take, hyl]; omega
  rcases hO with ⟨rfl, ao, hv'⟩ | ⟨gb, off, cap, cur, e', fr, hv', hnc, hcm, hfit, htake, hfree, Hb⟩
  · obtain rfl : m = 0 := by omega
    obtain rfl : lo = 0 := by omega
    have hx0 : xs = [] := List.eq_nil_of_length_eq_zero (by rw [hxl]; simp)
    subst hx0
    simp only [Nat.min_zero, Nat.zero_mul, List.take_zero] at hf ⊢
    refine .inl ⟨.int .i64 0, w, ?_, rfl, by simpa [splice] using H⟩
    simp [execOp, resolve, invoke, builtin, hs, hy, Builtin.copy_, ht, run_underlying hU, hS, hly, hf, storeCells, goInt]
  · simp only [Value.slice.injEq, Option.some.injEq, Addr.mk.injEq] at hv'
    obtain ⟨⟨rfl, rfl, _⟩, _, rfl⟩ := hv'
    have hncs : n * size ≤ c * size := Nat.mul_le_mul_right _ hnc
    obtain ⟨w', hst, hO'⟩ := Hb.storeCells (P := P) 0 rfl (o + lo * size) (ys.take (min k m * size)) (by rw [hlt]; omega) h1c (fun q h1 h2 => free_ok hfree (by rw [hlt] at h2; omega))
    refine .inl ⟨.int .i64 ((min k m : Nat) : Int), w', ?_, rfl, ?_⟩
    · have hg : goInt (Nat.min k m) = .int .i64 ((min k m : Nat) : Int) := rfl
      simp [execOp, resolve, invoke, builtin, hs, hy, Builtin.copy_, ht, run_underlying hU, hS, hly, hf, hst, goInt]
    · refine Own.closeOn (e := e') (fr := fr) hO' ?_ hnc hcm (by rw [splice_length (by rw [hlt]; omega)]; exact hfit) ?_ (by rw [splice_length (by rw [hlt]; omega)]; exact hfree)
      · rw [splice_length (by rw [hlt]; omega)]; exact hxl
      · rw [drop_splice_take (by rw [hlt]; omega) (by omega), htake]
/-- A slice that is owned, longer, within its capacity: what is behind it, nobody knows. -/
theorem Own.longer {size n c k : Nat} {b o : Nat} {xs : List Value} (H : On W0 (Own size (.slice (some ⟨b, o, none⟩) n c) n xs :: L) w) (hk : n + k ≤ c) (hn : 0 < n) :
    ∃ zs, zs.length = k * size ∧ On W0 (Own size (.slice (some ⟨b, o, none⟩) (n + k) c) (n + k) (xs ++ zs) :: L) w := by
  obtain ⟨hxl, hO⟩ := Own.openOn H
  rcases hO with ⟨h0, _⟩ | ⟨gb, off, cap, cur, e', fr, hv', hnc, hcm, hfit, htake, hfree, Hb⟩
  · omega
  · simp only [Value.slice.injEq, Option.some.injEq, Addr.mk.injEq] at hv'
    obtain ⟨⟨rfl, rfl, _⟩, _, rfl⟩ := hv'
    have hle : (n + k) * size ≤ c * size := Nat.mul_le_mul_right _ hk
    have e1 : (n + k) * size = n * size + k * size := Nat.add_mul ..
    have e2 : (cur.drop o).take ((n + k) * size) = xs ++ (cur.drop (o + n * size)).take (k * size) := by
      rw [e1, List.take_add, htake, List.drop_drop]
    have hzl : ((cur.drop (o + n * size)).take (k * size)).length = k * size := by rw [List.length_take, List.length_drop]; omega
    exact ⟨_, hzl, Own.closeOn Hb (by rw [List.length_append, hxl, hzl, e1]) hk hcm hfit e2 hfree⟩
/-- append(s, make(..)...) where there is no room: a new row; the elder one stays. -/
theorem eff_appZeros {t tn e size i k bytes cap : Nat} {kn kx : IntKind} {ao : Option Addr} {z : Value} {xs : List Value} {ti : TypeInfo} {sx sk : Operand} (H : On W0 L w) (C : Cells size (.slice ao i cap) i xs (hp w)) (hs : ρ sx = .slice ao i cap) (hk : ρ sk = .int kx (k : Int)) (hk0 : 0 < k) (hcap : cap < i + k)
    (hU : P.underlying t = some (.slice e)) (hN : P.underlying tn = some (.int kn)) (hI : P.info? e = some ti) (hsz : ti.size = size) (hs0 : 0 < size) (hby : ti.bytes = bytes) (hz : ti.zero = some z) (hzs : z.cells.size = size)
    (h63 : i + k ≤ maxLen) (hb : (i + k) * bytes ≤ 140737488355328) :
    Eff P ρ ⟨d, .call { callee := .builtin .append, args := #[sx, sk], argTypes := #[t, tn] }, ty, pos, af, g⟩ w (fun v w' => ∃ b c, v = .slice (some ⟨b, 0, none⟩) (i + k) c ∧ On W0 (Own size (.slice (some ⟨b, 0, none⟩) (i + k) c) (i + k) (xs ++ (Builtin.zeroCells z.cells k).toList) :: L) w') := by
  subst hsz
  subst hby
  have hml := maxLen_eq
  have hxlen : xs.length = i * ti.size := C.1
  have hne : ¬ (i + k ≤ cap) := by omega
  have h63' : ¬ (9223372036854775807 < ((i : Int) + (k : Int))) := by omega
  have h48' : ¬ (281474976710656 < Builtin.nextslicecap (i + k) cap * ti.bytes) := by
    have := growslice_fits (old := cap) (by omega) hb; omega
  have hkb : k * ti.bytes ≤ (i + k) * ti.bytes := Nat.mul_le_mul_right _ (by omega)
  have h48i : ¬ (281474976710656 < (k : Int) * (ti.bytes : Int)) := by
    rw [← Int.natCast_mul]; omega
  have hw : IntKind.i64.wrap (k : Int) = k := by rw [IntKind.wrap_i64]; omega
  have hks : ¬ (k = 0 ∨ ti.size = 0) := by omega
  have Cxd : Cells ti.size (.slice ao i cap) i xs (hp w.drew) := C
  have hfx := run_firstCells_C (P := P) Cxd
  have hlt0 : ¬ ((k : Int) < 0) := by omega
  refine .inl ⟨.slice (some ⟨w.heap.size, 0, none⟩) (i + k) (grownCap w (i + k) cap e), w.drew.alloc (.cells (xs.toArray ++ Builtin.zeroCells z.cells k ++ Builtin.zeroCells z.cells (grownCap w (i + k) cap e - (i + k))) e), ?_, ?_⟩
  · have hr : (Builtin.append_ #[t, tn] ty #[.slice ao i cap, .int kx k]).run P w = .ok (.slice (some ⟨w.heap.size, 0, none⟩) (i + k) (grownCap w (i + k) cap e)) (w.drew.alloc (.cells (xs.toArray ++ Builtin.zeroCells z.cells k ++ Builtin.zeroCells z.cells (grownCap w (i + k) cap e - (i + k))) e)) := by
      simp [Builtin.append_, run_underlying hU, run_underlying hN, sizeOf, typeInfo, zeroValue, hI, hz, hne, h63', h48', h48i, hw, hks, hlt0, Question.forced, hfx, newRow, grownCap, asInt, asIntOf]
      intro h0
      have := Nat.mul_pos hk0 hs0
      omega
    simp [execOp, resolve, invoke, builtin, hs, hk, hr]
  · refine ⟨_, _, rfl, ?_⟩
    have hge := grownCap_ge w (i + k) cap e
    have hcm : grownCap w (i + k) cap e ≤ maxLen := grownCap_le_maxLen w (i + k) cap e h63
    have hA := (H.drew).alloc (.cells (xs.toArray ++ Builtin.zeroCells z.cells k ++ Builtin.zeroCells z.cells (grownCap w (i + k) cap e - (i + k))) e)
    have hzl : (Builtin.zeroCells z.cells k).toList.length = k * ti.size := by simp [size_zeroCells, hzs]
    refine hA.head fun h hh => ⟨by rw [List.length_append, hxlen, hzl, Nat.add_mul], .inr ⟨w.heap.size, 0, grownCap w (i + k) cap e, xs ++ (Builtin.zeroCells z.cells k).toList ++ (Builtin.zeroCells z.cells (grownCap w (i + k) cap e - (i + k))).toList, e, (0, 0), rfl, hge, hcm, ?_, ?_, ?_, ?_⟩⟩
    · simp only [List.length_append, hxlen, hzl, Array.length_toList, size_zeroCells, hzs, ← Nat.add_mul]
      rw [Nat.zero_add]
      apply Nat.le_of_eq; congr 1; omega
    · rw [List.drop_zero]
      have : (i + k) * ti.size = (xs ++ (Builtin.zeroCells z.cells k).toList).length := by rw [List.length_append, hxlen, hzl, Nat.add_mul]
      rw [this]
      exact List.take_left
    · exact .inl rfl
    · have hh' : h w.drew.heap.size = _ := hh
      rw [show w.drew.heap.size = w.heap.size from rfl] at hh'
      rw [hh']
      simp [obj]
/-- slices.overlaps of a slice in a block of its own and one that is owned: they do not. -/
theorem eff_overlaps {env : Env} {f : FuncId} {fn : Func} {x y : Operand} {tS tR e size n c k cx m cy bx o off : Nat} {b : Nat} {l xs : List Value} {te : Nat} {tys : Array TypeId} (H : On W0 (Own size (.slice (some ⟨b, o, none⟩) n c) n xs :: L) w) (hB : HasBlk L bx l te (0, 0)) (hn : 0 < n) (hs0 : 0 < size)
    (hf : P.funcs[f]? = some fn) (hname : (fn.name == "runtime.NumGoroutine") = false) (hb : fn.body.isNone = true) (hn' : Extern.findNext fn = none) (he : Extern.find fn = some (Extern.SlicesOverlaps.overlaps #[tS, tS] #[tR]))
    (hU : P.underlying tS = some (.slice e)) (hS : ∀ w, (sizeOf e).run P w = .ok size w) (hx : evo env x = .slice (some ⟨bx, 0, none⟩) m cx) (hy : evo env y = .slice (some ⟨b, off, none⟩) k cy) :
    Eff P (evo env) ⟨d, .call { callee := .value (.func f), args := #[x, y], argTypes := tys }, ty, pos, af, g⟩ w (fun v w' => v = .bool false ∧ On W0 (Own size (.slice (some ⟨b, o, none⟩) n c) n xs :: L) w') := by
  obtain ⟨hxl, hO⟩ := Own.openOn H
  rcases hO with ⟨h0, _⟩ | ⟨gb, off', cap, cur, e', fr, hv', hnc, hcm, hfit, htake, hfree, Hb⟩
  · omega
  · simp only [Value.slice.injEq, Option.some.injEq, Addr.mk.injEq] at hv'
    obtain ⟨⟨rfl, rfl, _⟩, _, rfl⟩ := hv'
    have hbx : w.heap[bx]? = some (obj l te (0, 0)) := H.tail.blkB (i := hB)
    have hbb : w.heap[b]? = some (obj cur e' fr) := Hb.block 0 rfl
    have hne : bx ≠ b := by
      intro hh
      subst hh
      obtain ⟨h1, h2, dd, s1, s2, a, r⟩ := Hb.sat
      exact dd bx _ _ a (hB.out _ r)
    have hcl : cur.length ≠ 0 := by
      have : 0 < n * size := Nat.mul_pos hn hs0
      have : n * size ≤ c * size := Nat.mul_le_mul_right _ hnc
      omega
    refine .inl ⟨.bool false, w, ?_, rfl, H⟩
    have hov := Lib.run_overlaps_apart (P := P) w tS tR e hU size hS ⟨bx, 0, none⟩ ⟨b, off, none⟩ m cx k cy hne te e' l.length cur.length (by simp [World.shape?, hbx]) (by simp [World.shape?, hbb]) hcl (frozen_of hbx (free0 _)) (frozen_of hbx (free0 _))
    have hr := run_callFunc_extern hf hname hb hn' he #[.slice (some ⟨bx, 0, none⟩) m cx, .slice (some ⟨b, off, none⟩) k cy] w
    rw [hov] at hr
    have hfn : evo env (.func f) = .func (.func f) #[] #[] := rfl
    simp only [Result.andThen_ok] at hr
    simp [execOp, resolve, Deferred.ofValue, invoke, hx, hy, hfn, hr]
theorem sliced_add {b o lo hi m size : Nat} (h : m ≠ lo) : sliced (some ⟨b, o, none⟩) lo hi m size = .slice (some ⟨b, o + lo * size, none⟩) (hi - lo) (m - lo) := by
  unfold sliced
  rw [if_neg h]
  simp [Addr.add_mk]
end
end Go.Sl
namespace Go.Sl
open Go
section
variable {P : Program} {w : World} {ρ : Operand → Value} {d : Option Nat} {ty : TypeId} {pos : String} {af : Array Edge} {g : Option (Nat × Bool)}
theorem run_capSlice {t e n c : Nat} {a : Option Addr} {x : Operand} (hU : P.underlying t = some (.slice e)) (h : ρ x = .slice a n c) :
    (execOp ρ ⟨d, .call { callee := .builtin .cap, args := #[x], argTypes := #[t] }, ty, pos, af, g⟩).run P w = .ok (.value (.int .i64 (c : Int))) w := by
  simp [execOp, resolve, invoke, builtin, h, Builtin.cap_, run_underlying hU, goInt]
end
/-- What is inserted where the row is new. -/
theorem ins_grow {xs zs vs : List Value} {p q m : Nat} (hx : xs.length = m) (hp : p ≤ m) (hz : zs.length = m + q - p) (hv : vs.length = q) :
    splice (splice (xs.take p ++ zs) p vs) (p + q) (xs.drop p) = xs.take p ++ vs ++ xs.drop p := by
  have hA : (xs.take p).length = p := by rw [List.length_take, hx]; omega
  have hB : (xs.drop p).length = m - p := by rw [List.length_drop, hx]
  have e1 : splice (xs.take p ++ zs) p vs = xs.take p ++ vs ++ zs.drop q := by
    unfold splice
    rw [List.take_append_of_le_length (by rw [hA]; omega), List.take_of_length_le (by rw [hA]; omega), hv]
    congr 1
    rw [List.drop_append, hA, List.drop_of_length_le (by rw [hA]; omega), List.nil_append]
    congr 1; omega
  rw [e1]
  unfold splice
  have hAV : (xs.take p ++ vs).length = p + q := by rw [List.length_append, hA, hv]
  rw [List.take_append_of_le_length (by rw [hAV]; omega), List.take_of_length_le (by rw [hAV]; omega)]
  rw [List.drop_of_length_le (l := xs.take p ++ vs ++ zs.drop q) (by rw [List.length_append, hAV, List.length_drop, hz, hB]; omega), List.append_nil]
end Go.Sl
