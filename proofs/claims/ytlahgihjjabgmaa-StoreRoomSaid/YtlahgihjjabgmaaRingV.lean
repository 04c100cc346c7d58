/-
  Lives of a journal: what is found behind a power cut, and what is written anew. No program is named here.
-/
import Derived.Test.YtlahgihjjabgmaaRingT
import Derived.Test.YtlahgihjjabgmaaSlB
namespace Go.Sl.RgM
open Go Go.Sl Go.Sl.ByM Go.Sl.DkM Go.Sl.TwM
set_option linter.unusedVariables false
set_option linter.unusedSimpArgs false
theorem exists_pre : ∀ P : List Int, (∀ x ∈ P, x = 0 ∨ x = 1) → ∃ n, n ≤ P.length ∧ (∀ j, j < n → P[j]? = some 1) ∧ (n < P.length → P[n]? = some 0)
  | [], _ => ⟨0, Nat.le_refl _, fun j h => by omega, fun h => by simp at h⟩
  | x :: P, h => by
    rcases h x (by simp) with rfl | rfl
    · exact ⟨0, Nat.zero_le _, fun j h => by omega, fun _ => rfl⟩
    · obtain ⟨n, h1, h2, h3⟩ := exists_pre P (fun y hy => h y (by simp [hy]))
      refine ⟨n + 1, by simpa using h1, fun j hj => ?_, fun hn => ?_⟩
      · cases j with
        | zero => rfl
        | succ j => simpa using h2 j (by omega)
      · simpa using h3 (by simpa using hn)
theorem leastR_le {l : List LB} {m : Nat} (h : ∀ x ∈ l, x.1 ≤ m) : leastR l ≤ m := by
  unfold leastR
  cases hl : l.getLast? with
  | none => exact Nat.zero_le _
  | some x => exact h x (List.mem_of_getLast? hl)
theorem usedR_small {l : List LB} (h : ∀ x ∈ l, x.2.length ≤ 480) : usedR l = l.length := by
  rw [← usedB_of, usedB_small (bs := l.map (·.2)) (fun b hb => by obtain ⟨x, hx, rfl⟩ := List.mem_map.1 hb; exact h x hx), List.length_map]
theorem pos0 {k : Nat} (h : k < 12) : posR 0 12 (k % 12) 0 = (k : Int) := by
  unfold posR
  rw [Nat.zero_add, Nat.add_zero, Nat.mod_mod, Nat.mod_eq_of_lt h]
def lb (l : Nat) (xs : List BX) : List LB := xs.map fun x => (l, x.b)
theorem lb_bytes (l : Nat) (xs : List BX) : (lb l xs).map (·.2) = xs.map BX.b := by unfold lb; rw [List.map_map]; rfl
def lbs (xs ys : List BX) : List LB := lb 1 xs ++ lb 2 ys
theorem lbs_bytes (xs ys : List BX) : (lbs xs ys).map (·.2) = (xs ++ ys).map BX.b := by unfold lbs; rw [List.map_append, lb_bytes, lb_bytes, List.map_append]
theorem lbs_mem {xs ys : List BX} {x : LB} (h : x ∈ lbs xs ys) : (x.1 = 1 ∨ x.1 = 2) ∧ ∃ y, (y ∈ xs ∨ y ∈ ys) ∧ x.2 = y.b := by
  rcases List.mem_append.1 h with h | h
  · obtain ⟨y, hy, rfl⟩ := List.mem_map.1 h
    exact ⟨.inl rfl, y, .inl hy, rfl⟩
  · obtain ⟨y, hy, rfl⟩ := List.mem_map.1 h
    exact ⟨.inr rfl, y, .inr hy, rfl⟩
theorem lbs_len (xs ys : List BX) : (lbs xs ys).length = xs.length + ys.length := by unfold lbs lb; simp
theorem lbs_used {xs ys : List BX} (h1 : ∀ x ∈ xs, x.b.length ≤ 480) (h2 : ∀ x ∈ ys, x.b.length ≤ 480) : usedR (lbs xs ys) = xs.length + ys.length := by
  rw [usedR_small, lbs_len]
  intro x hx
  obtain ⟨_, y, hy, e⟩ := lbs_mem hx
  rw [e]
  rcases hy with hy | hy
  · exact h1 y hy
  · exact h2 y hy
theorem lbs_snoc (xs ys : List BX) (y : BX) : lbs xs (ys ++ [y]) = lbs xs ys ++ [(2, y.b)] := by unfold lbs lb; simp
/-- Where others' sectors lie. -/
def Behind (d : Dk) (k : Nat) : Prop := ∀ q : Nat, k ≤ q → q < 12 → Elder (readD d (q : Int)) 2
structure LiveS (d : Dk) (xs ys : List BX) : Prop where
  live : Live d
  n : d.n = 12
  chain : Chain d 0 12 0 1 2 (lbs xs ys)
  behind : Behind d (xs.length + ys.length)
  first : ys = [] → (unpackR (readD d (xs.length : Int))).err ≠ 0
  few1 : ∀ x ∈ xs, x.b.length ≤ 480
  few2 : ∀ x ∈ ys, x.b.length ≤ 480
/-- Behind the cut. -/
theorem lives_cut {d : Dk} {l : List BX} {picks : List Int} {n1 : Nat} (hm : d.m = secs1 (l.map BX.b) 1) (h0 : d.off = false) (h1 : d.dead = false) (hn12 : d.n = 12) (hb : ∀ x ∈ l, x.b.length ≤ 480) (hN : l.length ≤ 6) (hpl : picks.length = l.length) (hp01 : ∀ x ∈ picks, x = 0 ∨ x = 1)
    (hn : n1 ≤ l.length) (hp : ∀ j, j < n1 → picks[j]? = some 1) (hz : n1 < l.length → picks[n1]? = some 0) : LiveS (onD (crashD d picks)) (l.take n1) [] := by
  have hbb : ∀ b ∈ l.map BX.b, b.length ≤ 480 := fun b hb' => by obtain ⟨x, hx, rfl⟩ := List.mem_map.1 hb'; exact hb x hx
  have hbl : (l.map BX.b).length = l.length := List.length_map ..
  have hfew : ∀ x ∈ l.take n1, x.b.length ≤ 480 := fun x hx => hb x (List.mem_of_mem_take hx)
  have hlt : (l.take n1).length = n1 := by rw [List.length_take]; omega
  have zero : ∀ q : Nat, q < 12 → (l.length ≤ q ∨ picks[q]? = some 0) → readD (onD (crashD d picks)) (q : Int) = List.replicate 512 0 := by
    intro q hq hh
    rcases Nat.lt_or_ge q l.length with hql | hql
    · have hq0 : picks[q]? = some ((0 : Nat) : Int) := by
        rcases hh with hh | hh
        · omega
        · exact hh
      have := secs1_cut hm h0 h1 hbb (i := q) (p := 0) (by omega) hq0 (by omega)
      rw [this, if_neg (by decide)]
    · exact secs1_else hm h0 h1 (fun i hi e => by omega)
  have one : ∀ q : Nat, q < l.length → picks[q]? = some 1 → readD (onD (crashD d picks)) (q : Int) = secR (q + 1) 1 0 1 ((l.map BX.b).getD q []) := by
    intro q hq hh
    have := secs1_cut hm h0 h1 hbb (i := q) (p := 1) (by omega) hh (by omega)
    rw [this, if_pos rfl]
  have hcd : (crashD d picks).dead = false := by rw [crashD_on h0 h1]; exact h1
  have hz1 : readD (onD (crashD d picks)) ((n1 : Nat) : Int) = List.replicate 512 0 := by
    refine zero n1 (by omega) ?_
    rcases Nat.lt_or_ge n1 l.length with hh | hh
    · exact .inr (hz hh)
    · exact .inl (by omega)
  refine ⟨on_live hcd, (crashD_n d picks).trans hn12, ⟨fun j x hx => ?_, ?_, ?_⟩, ?_, fun _ => by rw [hlt, hz1]; exact unpackR_zero, hfew, fun x hx => by cases hx⟩
  · have hjl : j < n1 := by
      have := (List.getElem?_eq_some_iff.1 hx).1
      rw [lbs_len, hlt] at this
      simpa using this
    have hx1 : lbs (l.take n1) [] = lb 1 (l.take n1) := by unfold lbs lb; simp
    rw [hx1] at hx ⊢
    have hxl : l[j]? = some (l[j]'(by omega)) := List.getElem?_eq_getElem _
    have hxe : x = (1, (l[j]'(by omega)).b) := by
      unfold lb at hx
      rw [List.getElem?_map, List.getElem?_take, if_pos hjl, hxl] at hx
      exact (Option.some.inj hx).symm
    have hxm : ∀ y ∈ (lb 1 (l.take n1)).take j, y.2.length ≤ 480 ∧ y.1 = 1 := fun y hy => by
      obtain ⟨z, hz', rfl⟩ := List.mem_map.1 (List.mem_of_mem_take hy)
      exact ⟨hfew z hz', rfl⟩
    have hu : usedR ((lb 1 (l.take n1)).take j) = j := by
      rw [usedR_small (fun y hy => (hxm y hy).1), List.length_take]
      unfold lb
      rw [List.length_map, hlt]; omega
    have hxb : x.2.length ≤ 480 := by rw [hxe]; exact hb _ (List.getElem_mem _)
    refine ⟨here_one hxb ?_, leastR_le (fun y hy => by rw [(hxm y hy).2, hxe]; exact Nat.le_refl _), by rw [hxe]; show 1 ≤ 2; decide, by omega⟩
    rw [hu, Nat.zero_add, pos0 (by omega), one j (by omega) (hp j hjl), hxe]
    have e : (l.map BX.b).getD j [] = (l[j]'(by omega)).b := by rw [List.getD_eq_getElem?_getD, List.getElem?_map, hxl]; rfl
    rw [e, Nat.add_comm 1 j]
  · rw [lbs_used hfew (fun x hx => by cases hx), hlt]; show n1 + 0 ≤ 12; omega
  · rw [lbs_used hfew (fun x hx => by cases hx), hlt]
    refine .inr (.inl ?_)
    rw [show (0 + (n1 + ([] : List BX).length)) % 12 = n1 % 12 by show (0 + (n1 + 0)) % 12 = _; rw [Nat.zero_add, Nat.add_zero], pos0 (by omega), hz1]
    exact unpackR_zero
  · intro q hq1 hq2
    rcases Nat.lt_or_ge q l.length with hql | hql
    · obtain ⟨p, hp'⟩ : ∃ p, picks[q]? = some p := ⟨picks[q]'(by omega), List.getElem?_eq_getElem _⟩
      rcases hp01 p (List.mem_of_getElem? hp') with rfl | rfl
      · rw [zero q hq2 (.inr hp')]; exact elder_zero 2
      · rw [one q hql hp']
        refine elder_one (by show q + 1 < 18446744073709551616; omega) ?_ (by decide)
        rw [List.getD_eq_getElem?_getD, List.getElem?_map, List.getElem?_eq_getElem hql]
        exact hb _ (List.getElem_mem _)
    · rw [zero q hq2 (.inl hql)]; exact elder_zero 2
/-- A record more. -/
theorem LiveS.app {d : Dk} {xs ys : List BX} {y : BX} (S : LiveS d xs ys) (hy : y.b.length ≤ 480) (hr : xs.length + ys.length < 12) : LiveS (appD d 0 12 ((0 + usedR (lbs xs ys)) % 12) (1 + (lbs xs ys).length) 2 y.b (needR y.b.length)) xs (ys ++ [y]) := by
  have hu := lbs_used S.few1 S.few2
  have hn1 : needR y.b.length = 1 := needR_small hy
  have hin : ((0 + 12 : Nat) : Int) ≤ d.n := by rw [S.n]; decide
  obtain ⟨l1, l2, l3⟩ := app_live (place := (0 + usedR (lbs xs ys)) % 12) (number := 1 + (lbs xs ys).length) (life := 2) (b := y.b) S.live (by decide) hin (needR y.b.length)
  have hle : leastR (lbs xs ys) ≤ 2 := leastR_le fun x hx => by rcases (lbs_mem hx).1 with h | h <;> omega
  have hC := Chain.app (l2 := 2) (b := y.b) S.chain S.live (by decide) hin hle (by decide) (by omega) (by rw [hu, hn1]; omega) (by
    rw [hu, hn1]
    rcases Nat.lt_or_ge (xs.length + ys.length + 1) 12 with hh | hh
    · refine .inr (Elder.gone ?_)
      rw [show (0 + (xs.length + ys.length + 1)) % 12 = (xs.length + ys.length + 1) % 12 by rw [Nat.zero_add], pos0 hh]
      exact S.behind _ (by omega) hh
    · exact .inl (by omega))
  refine ⟨l1, l2.trans S.n, by rw [lbs_snoc]; exact hC, ?_, fun e => absurd e (by simp), S.few1, fun x hx => ?_⟩
  · intro q hq1 hq2
    rw [List.length_append, List.length_singleton] at hq1
    rw [app_else S.live (by decide) hin]
    · exact S.behind q (by omega) hq2
    · intro j hj e
      rw [hn1] at hj
      have : j = 0 := by omega
      subst this
      rw [hu, Nat.zero_add, pos0 (by omega)] at e
      omega
  · rcases List.mem_append.1 hx with hx | hx
    · exact S.few2 x hx
    · rw [List.mem_singleton.1 hx]; exact hy
/-- A later life finds the same. -/
theorem LiveS.later {d : Dk} {xs ys : List BX} (S : LiveS d xs ys) (hr : xs.length + ys.length ≤ 12) (hx6 : xs.length ≤ 6) : Chain d 0 12 0 1 3 (lbs xs ys) := by
  have hu := lbs_used S.few1 S.few2
  refine S.chain.life (by decide) ?_
  rw [hu]
  rcases Nat.lt_or_ge (xs.length + ys.length) 12 with hh | hh
  · refine .inr ?_
    by_cases hy : ys = []
    · subst hy
      refine .inl ?_
      rw [show (0 + (xs.length + ([] : List BX).length)) % 12 = xs.length % 12 by show (0 + (xs.length + 0)) % 12 = _; rw [Nat.zero_add, Nat.add_zero], pos0 (by omega)]
      exact S.first rfl
    · have hl : leastR (lbs xs ys) = 2 := by
        obtain ⟨zs, z, rfl⟩ : ∃ zs z, ys = zs ++ [z] := ⟨ys.dropLast, ys.getLast hy, (List.dropLast_concat_getLast _).symm⟩
        rw [lbs_snoc, leastR_app]
      rw [hl]
      refine Elder.gone ?_
      rw [show (0 + (xs.length + ys.length)) % 12 = (xs.length + ys.length) % 12 by rw [Nat.zero_add], pos0 hh]
      exact S.behind _ (Nat.le_refl _) hh
  · exact .inl (by omega)
/-! ### The first life -/
structure OneS (d : Dk) (xs : List BX) : Prop where
  live : Live d
  n : d.n = 12
  calls : d.calls = xs.length
  m : d.m = secs1 (xs.map BX.b) 1
theorem OneS.new : OneS (newD 12) [] := ⟨newLive 12, rfl, rfl, rfl⟩
theorem OneS.app {d : Dk} {xs : List BX} {x : BX} (S : OneS d xs) (hx : x.b.length ≤ 480) (hr : xs.length < 12) : OneS (appD d 0 12 (xs.length % 12) (1 + xs.length) 1 x.b (needR x.b.length)) (xs ++ [x]) := by
  rw [needR_small hx]
  have hin : ((0 + 12 : Nat) : Int) ≤ d.n := by rw [S.n]; decide
  have e : appD d 0 12 (xs.length % 12) (1 + xs.length) 1 x.b 1 = { d with calls := d.calls + 1, m := addW d.m (xs.length : Int) (secR (xs.length + 1) 1 0 1 x.b) } := by
    show (writeD d (posR 0 12 (xs.length % 12) 0) (secR (1 + xs.length) 1 0 (needR x.b.length) (partR x.b 0))).2 = _
    rw [needR_small hx, part_small hx, pos0 hr, Nat.add_comm 1, (live_write (k := (xs.length : Int)) (bs := secR (xs.length + 1) 1 0 1 x.b) S.live ⟨by omega, by rw [S.n]; omega⟩ (by rw [secR_length hx]; omega)).1]
  rw [e]
  refine ⟨⟨S.live.off, S.live.dead, S.live.armed⟩, S.n, ?_, ?_⟩
  · show d.calls + 1 = _
    rw [S.calls, List.length_append, List.length_singleton]; omega
  · show addW d.m _ _ = _
    rw [S.m, List.map_append]
    have := secs1_add (xs.map BX.b) x.b 1
    rw [List.length_map] at this
    exact this
end Go.Sl.RgM
