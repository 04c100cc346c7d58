/-
  The power goes: rows turned in the order of their keys. No program is named here.
-/
import Derived.Test.YtlahgihjjabgmaaDiskMore
namespace Go.Sl.DkM
open Go Go.Sl
set_option linter.unusedVariables false
set_option linter.unusedSimpArgs false
def rowsAt (f : Int → Sec → Sec) (ks : List Int) (rows : List Rw) : List Rw := rows.map fun r => if ks.contains r.k then { r with s := f r.k r.s } else r
section
variable {f : Int → Sec → Sec} {ks : List Int} {rows : List Rw} {i j : Nat} {r : Rw} {k : Int}
theorem rowsAt_nil : rowsAt f [] rows = rows := by unfold rowsAt; simp
theorem rowsAt_get (hi : rows[i]? = some r) (hs : ks.contains r.k = false) : (rowsAt f ks rows)[i]? = some r := by
  unfold rowsAt
  rw [List.getElem?_map, hi]
  simp only [Option.map_some, hs]
  rfl
theorem rowsAt_len : (rowsAt f ks rows).length = rows.length := by unfold rowsAt; simp
theorem rowsAt_kv : (rowsAt f ks rows).map Rw.kv = rows.map Rw.kv := by
  unfold rowsAt
  rw [List.map_map]
  refine List.map_congr_left fun r _ => ?_
  show Rw.kv (if ks.contains r.k then { r with s := f r.k r.s } else r) = Rw.kv r
  split <;> rfl
theorem rowsAt_set (hn : (rows.map (·.k)).Nodup) (hi : rows[i]? = some r) (hs : ks.contains r.k = false) : (rowsAt f ks rows).set i { r with s := f r.k r.s } = rowsAt f (ks ++ [r.k]) rows := by
  have hlt := (List.getElem?_eq_some_iff.1 hi).1
  have hri : rows[i] = r := (List.getElem?_eq_some_iff.1 hi).2
  unfold rowsAt
  apply List.ext_getElem
  · simp
  · intro j h1 h2
    simp at h1
    have h1' : j < rows.length := by simpa using h1
    by_cases hj : i = j
    · subst hj
      simp [hri]
    · have hne : ¬ rows[j].k = r.k := by
        intro he
        have h3 : (rows.map (·.k))[i]'(by simpa using hlt) = (rows.map (·.k))[j]'(by simpa using h1') := by simp [he, hri]
        exact hj ((List.getElem_inj hn).1 h3)
      simp [List.getElem_set, hj, hne]
theorem rowsAt_all (h : ∀ r ∈ rows, r.k ∈ ks) : rowsAt f ks rows = rows.map fun r => { r with s := f r.k r.s } := by
  unfold rowsAt
  refine List.map_congr_left fun r hr => ?_
  rw [if_pos (by simpa using h r hr)]
theorem take_one (hj : ks[j]? = some k) : ks.take (j + 1) = ks.take j ++ [k] := by
  rw [List.take_add_one, hj]; rfl
theorem take_not (hn : ks.Nodup) (hj : ks[j]? = some k) : (ks.take j).contains k = false := by
  have hlt := (List.getElem?_eq_some_iff.1 hj).1
  rw [← Bool.not_eq_true, List.contains_iff_mem]
  intro hm
  obtain ⟨q, hq⟩ := List.getElem?_of_mem hm
  rw [List.getElem?_take] at hq
  split at hq
  · have := (List.getElem?_inj (List.getElem?_eq_some_iff.1 hq).1 hn).1 (hq.trans hj.symm)
    omega
  · cases hq
theorem ks_of (hm : rows.map Rw.ks = (rows.map Rw.ks)) : (rows.map Rw.ks).map (·.1) = rows.map (·.k) := by rw [List.map_map]; rfl
theorem someW_row {m : List (Int × Sec)} (hm : m = rows.map Rw.ks) (hn : (rows.map (·.k)).Nodup) (hr : r ∈ rows) : someW m r.k = !r.s.wait.isEmpty := by
  subst hm
  unfold someW
  have := look_mem (m := rows.map Rw.ks) (by rw [ks_of rfl]; exact hn) (x := r.ks) (List.mem_map.2 ⟨r, hr, rfl⟩)
  have e : r.ks.1 = r.k := rfl
  rw [e] at this
  rw [this]; rfl
/-- How many were picked. -/
def cntK (m : List (Int × Sec)) (ks : List Int) (j : Nat) : Nat := ((ks.take j).filter (someW m)).length
theorem cntK_none {m : List (Int × Sec)} (hj : ks[j]? = some k) (h : someW m k = false) : cntK m ks (j + 1) = cntK m ks j := by
  unfold cntK; rw [take_one hj, List.filter_append]; simp [h]
theorem cntK_some {m : List (Int × Sec)} (hj : ks[j]? = some k) (h : someW m k = true) : cntK m ks (j + 1) = cntK m ks j + 1 := by
  unfold cntK; rw [take_one hj, List.filter_append]; simp [h]
theorem cntK_le (m : List (Int × Sec)) (ks : List Int) (j : Nat) : cntK m ks j ≤ ks.length := by
  unfold cntK
  have h1 := List.length_filter_le (someW m) (ks.take j)
  have h2 := List.length_take_le j ks
  simp at h1 h2
  omega
end
theorem emod_of_tmod (q : Int) (n : Nat) : q % ((n : Int) + 1) = if q.tmod ((n : Int) + 1) < 0 then q.tmod ((n : Int) + 1) + ((n : Int) + 1) else q.tmod ((n : Int) + 1) := by
  have hp : (0 : Int) < (n : Int) + 1 := by omega
  have h1 := Int.tmod_lt_of_pos q hp
  have h0 : -((n : Int) + 1) < q.tmod ((n : Int) + 1) := by
    have := Int.lt_tmod_of_pos q hp
    exact this
  have h2 := Int.tmod_add_mul_tdiv q ((n : Int) + 1)
  have key : ∀ r z : Int, r + ((n : Int) + 1) * z = q → 0 ≤ r → r < (n : Int) + 1 → q % ((n : Int) + 1) = r := by
    intro r z e a b
    rw [← e, Int.add_mul_emod_self_left, Int.emod_eq_of_lt a b]
  split
  · exact key _ (q.tdiv ((n : Int) + 1) - 1) (by rw [Int.mul_sub]; omega) (by omega) (by omega)
  · exact key _ _ h2 (by omega) h1
theorem pickP_le (picks : List Int) (i len : Nat) : pickP picks i len ≤ len := by
  unfold pickP
  split
  · rename_i q _
    have h1 := Int.emod_nonneg q (b := (len : Int) + 1) (by omega)
    have h2 := Int.emod_lt_of_pos q (b := (len : Int) + 1) (by omega)
    omega
  · omega
theorem pickP_none {picks : List Int} {i len : Nat} (h : picks.length ≤ i) : (pickP picks i len : Int) = 0 := by unfold pickP; rw [List.getElem?_eq_none h]; rfl
theorem pickP_neg {picks : List Int} {i len : Nat} {q : Int} (h : picks[i]? = some q) (hq : q.tmod ((len : Int) + 1) < 0) : (pickP picks i len : Int) = q.tmod ((len : Int) + 1) + ((len : Int) + 1) := by
  unfold pickP
  rw [h]
  show ((q % ((len : Int) + 1)).toNat : Int) = _
  rw [Int.toNat_of_nonneg (Int.emod_nonneg q (by omega)), emod_of_tmod, if_pos hq]
theorem pickP_pos {picks : List Int} {i len : Nat} {q : Int} (h : picks[i]? = some q) (hq : ¬ q.tmod ((len : Int) + 1) < 0) : (pickP picks i len : Int) = q.tmod ((len : Int) + 1) := by
  unfold pickP
  rw [h]
  show ((q % ((len : Int) + 1)).toNat : Int) = _
  rw [Int.toNat_of_nonneg (Int.emod_nonneg q (by omega)), emod_of_tmod, if_neg hq]
theorem settle_zero (s : Sec) (h : s.wait = []) (p : Nat) (hp : p = 0) : settle s p = s := by
  unfold settle
  subst hp
  cases s
  simp at h ⊢
  exact h
theorem crash1_none {m : List (Int × Sec)} {picks : List Int} {k : Int} {s : Sec} (h : s.wait = []) : crash1 m picks k s = s := by
  unfold crash1; rw [if_pos h]; exact settle_zero s h 0 rfl
theorem crash1_some {m : List (Int × Sec)} {picks : List Int} {k : Int} {s : Sec} (h : ¬ s.wait = []) : crash1 m picks k s = settle s (pickP picks (rank m k) s.wait.length) := by
  unfold crash1; rw [if_neg h]
theorem crashD_off {d : Dk} {picks : List Int} (h : d.off = true) : crashD d picks = d := by unfold crashD; rw [if_pos h]
theorem crashD_dead {d : Dk} {picks : List Int} (h : d.off = false) (h2 : d.dead = true) : crashD d picks = { d with off := true, armed := 0 } := by
  unfold crashD; rw [if_neg (by rw [h]; decide)]; simp [h2]
theorem crashD_on {d : Dk} {picks : List Int} (h : d.off = false) (h2 : d.dead = false) : crashD d picks = { d with off := true, armed := 0, m := crashM d.m picks } := by
  unfold crashD; rw [if_neg (by rw [h]; decide)]; simp [h2]
theorem crash_rows {m : List (Int × Sec)} {picks : List Int} {rows : List Rw} (hm : m = rows.map Rw.ks) : crashM m picks = (rows.map fun r => { r with s := crash1 m picks r.k r.s }).map Rw.ks := by
  unfold crashM
  rw [List.map_map]
  conv => lhs; rw [hm]
  rw [List.map_map]
  refine List.map_congr_left fun r _ => ?_
  show (r.ks.1, crash1 (rows.map Rw.ks) picks r.ks.1 r.ks.2) = _
  rw [← hm]
  rfl
end Go.Sl.DkM
namespace Go.Sl.DkM
open Go Go.Sl
/-- Numbers that are far from the end. -/
def Dk.low (d : Dk) : Prop := d.calls ≤ 1000000000000 ∧ d.armed ≤ 1000000000000000000
theorem callD_none {d : Dk} (h : ¬ 0 < d.armed) : callD d = (0, { d with calls := d.calls + 1 }) := by unfold callD; rw [if_neg h]
theorem callD_more {d : Dk} (h : 0 < d.armed) (h2 : d.armed ≠ 1) : callD d = (0, { d with armed := d.armed - 1, calls := d.calls + 1 }) := by unfold callD; rw [if_pos h, if_neg h2]
theorem callD_last {d : Dk} (h : d.armed = 1) : callD d = (8, crashD { d with armed := 0 } d.picks) := by unfold callD; rw [if_pos (by omega), if_pos h]
theorem crashD_picks (d : Dk) (p : List Int) : (crashD d p).picks = d.picks := by unfold crashD; split <;> rfl
theorem crashD_calls (d : Dk) (p : List Int) : (crashD d p).calls = d.calls := by unfold crashD; split <;> rfl
theorem crashD_n (d : Dk) (p : List Int) : (crashD d p).n = d.n := by unfold crashD; split <;> rfl
def armD (d : Dk) (n : Int) (picks : List Int) : Dk := if 0 < n then { d with armed := n, picks := picks } else { d with armed := 0 }
section
variable {W0 w : World} {L : List HProp} {T TS b : Nat} {d : Dk}
theorem closePe {p : List Int} {pa : Option Addr} {pc : Nat} (e : d.picks = p) (H : On W0 (DiskQ T TS b d pa p.length pc :: Own 1 (.slice pa p.length pc) p.length (intsV p) :: L) w) : On W0 (DiskP T TS b d :: L) w := by
  subst e
  exact closeP H
theorem diskOk (H : On W0 (DiskP T TS b d :: L) w) : d.ok := by
  obtain ⟨pa, pc, H⟩ := openP H
  obtain ⟨_, _, _, _, h, _⟩ := openQ H
  exact h
end
end Go.Sl.DkM
namespace Go.Sl.DkM
open Go Go.Sl
def newD (n : Int) : Dk := ⟨n, [], false, false, 0, [], 0⟩
theorem sum_le {l : List Nat} {B : Nat} (h : ∀ x ∈ l, x ≤ B) : l.sum ≤ l.length * B := by
  induction l with
  | nil => simp
  | cons x l ih =>
    have h1 := h x (by simp)
    have h2 := ih (fun y hy => h y (by simp [hy]))
    simp only [List.sum_cons, List.length_cons, Nat.add_mul]
    omega
theorem waitD_le {d : Dk} (h : d.ok) : (waitD d : Int) ≤ 4096 * d.calls := by
  have hs := h.size
  obtain ⟨h1, h2, h3, h4⟩ := h
  have : waitD d ≤ (d.m.map fun x => x.2.wait.length).length * d.calls.toNat := sum_le (fun x hx => by
    obtain ⟨y, hy, rfl⟩ := List.mem_map.1 hx
    have := (h4 y hy).2.2
    omega)
  rw [List.length_map] at this
  have h5 : d.m.length * d.calls.toNat ≤ 4096 * d.calls.toNat := Nat.mul_le_mul_right _ hs
  omega
end Go.Sl.DkM
