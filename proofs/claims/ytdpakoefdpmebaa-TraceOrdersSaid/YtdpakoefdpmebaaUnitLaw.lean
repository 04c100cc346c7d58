/-
  Laws of a unit on plain data: attentions, blocks in any order. No program is named here.
-/
import Derived.Test.YtdpakoefdpmebaaUnitKnown
namespace Go.Sl.UnM
open Go Go.Sl Go.Sl.BitM Go.Sl.SpM Go.Sl.RsM Go.Sl.ByM
set_option linter.unusedVariables false
/-- Nobody holds it, no attention waits. -/
def calm (u : Un) : Prop := u.t.hold = -1 ∧ ∀ i, i < 8 → (u.guest i).codes = []
theorem calm_new (n : Nat) : calm (newU n) := ⟨rfl, fun i hi => by
  unfold Un.guest newU
  simp only []
  rw [List.getD_eq_getElem?_getD, List.getElem?_replicate, if_pos hi]; rfl⟩
theorem calm_setS {u : Un} {s : Sp} (h : calm u) : calm (u.setS s) := h
theorem calm_okC {u : Un} (h : calm u) : okC u := fun i hi c hc => by rw [h.2 i hi] at hc; cases hc
theorem calm_small {u : Un} (h : calm u) : small 1000000 u := fun i hi => by rw [h.2 i hi]; exact Nat.zero_le _
theorem do_act {u : Un} {i : Nat} {c : Cm} (hi : i < 8) (h1 : 1 ≤ c.kind) (h18 : c.kind ≤ 18) (h9 : c.kind ≠ 9) (hc : c.kind = 8 ∨ (u.guest i).codes = []) (ht : u.t.hold = -1) : doM u i c = actM u i c :=
  doM_go hi h1 h18 h9 hc (.inl (.inl ht))
theorem do_run {u : Un} {i : Nat} {c : Cm} (hi : i < 8) (h2 : 2 ≤ c.kind) (h6 : c.kind ≤ 6) (h : calm u) : doM u i c = (u.setS (runM u.s c).1, (runM u.s c).2) := by
  rw [do_act hi (by omega) (by omega) (by omega) (.inr (h.2 i hi)) h.1]
  unfold actM
  rw [if_neg (by omega), if_neg (by omega), if_neg (by omega), if_pos h6]
theorem run_read {s : Sp} {p q : Nat} {data : List UInt8} {k n t : Int} {f : Bool} (hq : q ≤ 32) (h : p + q ≤ s.N) : runM s ⟨2, (p : Int), (q : Int), data, k, n, t, f⟩ = (s, gave (partS s p q)) := by
  unfold runM
  rw [if_pos (show inS s (p : Int) (q : Int) from ⟨by omega, by omega, by omega, by omega, by omega⟩), if_pos rfl]; rfl
theorem run_write {s : Sp} {p q : Nat} {data : List UInt8} {k n t : Int} {f : Bool} (hq : q ≤ 32) (h : p + q ≤ s.N) (hd : data.length = 8 * q) : runM s ⟨3, (p : Int), (q : Int), data, k, n, t, f⟩ = (writeS s p data, plain 0 0 0) := by
  unfold runM
  rw [if_pos (show inS s (p : Int) (q : Int) from ⟨by omega, by omega, by omega, by omega, by omega⟩), if_neg (by show ¬ (3 : Int) = 2; decide), if_pos rfl, if_pos (by show (data.length : Int) = (q : Int) * 8; omega)]; rfl
/-! ### Attentions -/
def cmReset : Cm := ⟨18, 0, 0, [], 0, 0, 0, false⟩
def cmInq : Cm := ⟨8, 0, 0, [], 0, 0, 0, false⟩
def at1 : Un := resetN (newU 4) 8
def at2 (i : Nat) : Un := at1.putG i (at1.guest i).pop
theorem resetN_t (u : Un) : ∀ n, (resetN u n).t = u.t ∧ (resetN u n).s = u.s
  | 0 => ⟨rfl, rfl⟩
  | n + 1 => resetN_t u n
theorem at1_t : at1.t.hold = -1 := by unfold at1; rw [(resetN_t _ 8).1]; rfl
theorem at1_s : at1.s = newS 4 := by unfold at1; rw [(resetN_t _ 8).2]; rfl
theorem at1_len : at1.g.length = 8 := resetN_len (by show (List.replicate 8 _).length = 8; rw [List.length_replicate]) 8
theorem at1_codes {i : Nat} (hi : i < 8) : (at1.guest i).codes = [10499] := by
  unfold at1
  rw [resetN_done (by show (List.replicate 8 _).length = 8; rw [List.length_replicate]) 8 hi (Nat.le_refl _)]
  show tellM ((newU 4).guest i).codes 10499 = _
  rw [(calm_new 4).2 i hi]
  rfl
theorem at1_okC : okC at1 := fun i hi c hc => by
  rw [at1_codes hi] at hc
  rw [List.mem_singleton] at hc
  subst hc; decide
theorem at1_small : small 1000000 at1 := fun i hi => by rw [at1_codes hi]; decide
theorem at2_t (i : Nat) : (at2 i).t.hold = -1 := at1_t
theorem at2_s (i : Nat) : (at2 i).s = newS 4 := at1_s
theorem at2_codes {i : Nat} (hi : i < 8) : ((at2 i).guest i).codes = [] := by
  unfold at2
  rw [guest_put at1_len hi]
  show ((at1.guest i).codes).drop 1 = []
  rw [at1_codes hi]; rfl
theorem at2_ok {i : Nat} (hi : i < 8) : okC (at2 i) ∧ small 1000000 (at2 i) := by
  refine ⟨fun j hj c hc => ?_, fun j hj => ?_⟩
  · by_cases e : i = j
    · subst e; rw [at2_codes hi] at hc; cases hc
    · unfold at2 at hc
      rw [guest_other e] at hc
      exact at1_okC j hj c hc
  · by_cases e : i = j
    · subst e; rw [at2_codes hi]; exact Nat.zero_le _
    · unfold at2
      rw [guest_other e]
      exact at1_small j hj
theorem at_do1 {i : Nat} (hi : i < 8) : doM (newU 4) i cmReset = (at1, plain 0 0 0) := by
  rw [do_act hi (by decide) (by decide) (by decide) (.inr ((calm_new 4).2 i hi)) rfl]
  unfold actM
  rw [if_neg (by decide), if_neg (by decide), if_neg (by decide), if_neg (by decide), if_pos (show cmReset.kind = 18 from rfl)]
  rfl
theorem at_do2 {i : Nat} (hi : i < 8) : doM at1 i cmInq = (at1, gave inqB) := by
  rw [do_act hi (by decide) (by decide) (by decide) (.inl rfl) at1_t]
  unfold actM
  rw [if_neg (by decide), if_pos (show cmInq.kind = 8 from rfl)]
theorem at_do3 {i : Nat} {c : Cm} (hi : i < 8) (h2 : 2 ≤ c.kind) (h6 : c.kind ≤ 6) : doM at1 i c = (at2 i, plain 2 6 10499) :=
  doM_pop hi (by omega) (by omega) (by omega) (by omega) (at1_codes hi)
theorem at_run {i : Nat} {s : Sp} {c : Cm} (hi : i < 8) (h2 : 2 ≤ c.kind) (h6 : c.kind ≤ 6) : doM ((at2 i).setS s) i c = ((at2 i).setS (runM s c).1, (runM s c).2) := by
  rw [do_act (u := (at2 i).setS s) hi (by omega) (by omega) (by omega) (.inr (show (((at2 i).setS s).guest i).codes = [] from at2_codes hi)) (show ((at2 i).setS s).t.hold = -1 from at2_t i)]
  unfold actM
  rw [if_neg (by omega), if_neg (by omega), if_neg (by omega), if_pos h6]
  rfl
theorem at2_set (i : Nat) : (at2 i).setS (newS 4) = at2 i := by
  have := at2_s i
  show ({ (at2 i) with s := newS 4 } : Un) = _
  rw [← this]
theorem part_new (n p q : Nat) (h : p + q ≤ n) : partS (newS n) p q = List.replicate (8 * q) 0 := by
  unfold partS newS
  simp only [List.drop_replicate, List.take_replicate]
  rw [Nat.min_eq_left (by omega)]
theorem at_do4 {i p : Nat} {data : List UInt8} (hi : i < 8) (hp : p ≤ 3) : doM (at2 i) i ⟨2, (p : Int), 1, data, 0, 0, 0, false⟩ = (at2 i, gave (List.replicate 8 0)) := by
  have h := at_run (i := i) (s := newS 4) (c := ⟨2, (p : Int), ((1 : Nat) : Int), data, 0, 0, 0, false⟩) hi (by show (2 : Int) ≤ 2; decide) (by show (2 : Int) ≤ 6; decide)
  rw [run_read (by decide) (by show p + 1 ≤ 4; omega), part_new 4 p 1 (by omega), at2_set] at h
  exact h
theorem at_do5 {i p : Nat} {data : List UInt8} (hi : i < 8) (hp : p ≤ 3) (hd : data.length = 8) : doM (at2 i) i ⟨3, (p : Int), 1, data, 0, 0, 0, false⟩ = ((at2 i).setS (writeS (newS 4) p data), plain 0 0 0) := by
  have h := at_run (i := i) (s := newS 4) (c := ⟨3, (p : Int), ((1 : Nat) : Int), data, 0, 0, 0, false⟩) hi (by show (2 : Int) ≤ 3; decide) (by show (3 : Int) ≤ 6; decide)
  rw [run_write (by decide) (by show p + 1 ≤ 4; omega) (by omega), at2_set] at h
  exact h
theorem at_do6 {i p : Nat} {data d2 : List UInt8} (hi : i < 8) (hp : p ≤ 3) (hd : data.length = 8) : doM ((at2 i).setS (writeS (newS 4) p data)) i ⟨2, (p : Int), 1, d2, 0, 0, 0, false⟩ = ((at2 i).setS (writeS (newS 4) p data), gave data) := by
  have h := at_run (i := i) (s := writeS (newS 4) p data) (c := ⟨2, (p : Int), ((1 : Nat) : Int), d2, 0, 0, 0, false⟩) hi (by show (2 : Int) ≤ 2; decide) (by show (2 : Int) ≤ 6; decide)
  rw [run_read (by decide) (by show p + 1 ≤ 4; omega), partS_write (newS_wf (by decide) (by decide)) (by omega) (by show p + 1 ≤ 4; omega)] at h
  exact h
end Go.Sl.UnM
namespace Go.Sl.UnM
open Go Go.Sl Go.Sl.BitM Go.Sl.SpM Go.Sl.RsM Go.Sl.ByM
/-! ### Blocks that do not meet -/
theorem over_comm {d xs ys : List UInt8} {p q : Nat} (h : p + xs.length ≤ q ∨ q + ys.length ≤ p) (hx : p + xs.length ≤ d.length) (hy : q + ys.length ≤ d.length) : over (over d p xs) q ys = over (over d q ys) p xs := by
  have l1 := over_length hx
  have l2 := over_length hy
  apply List.ext_getElem?
  intro j
  rw [over_get (l := over d p xs) (by omega), over_get (l := over d q ys) (by omega), over_get hx, over_get hy]
  by_cases h1 : q ≤ j ∧ j < q + ys.length
  · rw [if_pos h1, if_pos h1, if_neg (by omega)]
  · rw [if_neg h1, if_neg h1]
theorem apart_all {p q n m : Nat} {xs ys : List UInt8} (hx : xs.length = 8 * n) (hy : ys.length = 8 * m) (h1 : p + n ≤ 32) (h2 : q + m ≤ 32) (h : q + m ≤ p ∨ p + n ≤ q) :
    partS (writeS (writeS (newS 32) p xs) q ys) 0 32 = partS (writeS (writeS (newS 32) q ys) p xs) 0 32 := by
  have l : (newS 32).d.length = 256 := by show (List.replicate (8 * 32) (0 : UInt8)).length = _; rw [List.length_replicate]
  unfold partS
  show ((over (over (newS 32).d (8 * p) xs) (8 * q) ys).drop _).take _ = ((over (over (newS 32).d (8 * q) ys) (8 * p) xs).drop _).take _
  rw [over_comm (by omega) (by omega) (by omega)]
theorem ap_write {i p n : Nat} {s : Sp} {data : List UInt8} (hi : i < 8) (hN : s.N = 32) (hd : data.length = 8 * n) (h : p + n ≤ 32) : doM ((newU 32).setS s) i ⟨3, (p : Int), (n : Int), data, 0, 0, 0, false⟩ = ((newU 32).setS (writeS s p data), plain 0 0 0) := by
  rw [do_run (u := (newU 32).setS s) hi (by show (2 : Int) ≤ 3; decide) (by show (3 : Int) ≤ 6; decide) (calm_setS (calm_new 32))]
  rw [run_write (s := ((newU 32).setS s).s) (by omega) (by show p + n ≤ s.N; omega) hd]
  rfl
theorem ap_read {i : Nat} {s : Sp} (hi : i < 8) (hN : s.N = 32) : doM ((newU 32).setS s) i ⟨2, 0, 32, [], 0, 0, 0, false⟩ = ((newU 32).setS s, gave (partS s 0 32)) := by
  rw [do_run (u := (newU 32).setS s) hi (by show (2 : Int) ≤ 2; decide) (by show (2 : Int) ≤ 6; decide) (calm_setS (calm_new 32))]
  have := run_read (s := ((newU 32).setS s).s) (p := 0) (q := 32) (data := []) (k := 0) (n := 0) (t := 0) (f := false) (by decide) (by show 0 + 32 ≤ s.N; omega)
  have e : (⟨2, ((0 : Nat) : Int), ((32 : Nat) : Int), [], 0, 0, 0, false⟩ : Cm) = ⟨2, 0, 32, [], 0, 0, 0, false⟩ := rfl
  rw [e] at this
  rw [this]
  rfl
theorem ap_ok (s : Sp) : okC ((newU 32).setS s) ∧ small 1000000 ((newU 32).setS s) := ⟨calm_okC (calm_setS (calm_new 32)), calm_small (calm_setS (calm_new 32))⟩
end Go.Sl.UnM
