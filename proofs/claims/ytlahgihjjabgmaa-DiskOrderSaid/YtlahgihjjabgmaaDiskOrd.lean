/-
  What DiskOrder has, plain. No program is named here.
-/
import Derived.Test.YtlahgihjjabgmaaDiskLaws
namespace Go.Sl.DkM
open Go Go.Sl
set_option linter.unusedVariables false
def waitM (m : List (Int × Sec)) : Nat := (m.map fun x => x.2.wait.length).sum
theorem waitM_add {m : List (Int × Sec)} {k : Int} {bs : List UInt8} (hn : (m.map (·.1)).Nodup) : waitM (addW m k bs) = waitM m + 1 := by
  unfold addW
  split
  · rename_i ha
    induction m with
    | nil => cases ha
    | cons x m ih =>
      rw [List.map_cons, List.nodup_cons] at hn
      unfold waitM
      rw [List.map_cons, List.map_cons, List.sum_cons, List.map_cons, List.sum_cons]
      by_cases hx : x.1 = k
      · have e : m.map (fun x => if x.1 = k then (x.1, (⟨x.2.kept, x.2.wait ++ [bs]⟩ : Sec)) else x) = m := by
          conv => rhs; rw [← List.map_id m]
          refine List.map_congr_left fun y hy => ?_
          rw [if_neg]
          · rfl
          · intro e
            exact hn.1 (by rw [hx, ← e]; exact List.mem_map.2 ⟨y, hy, rfl⟩)
        rw [e, if_pos hx]
        simp
        omega
      · have ha2 : m.any (fun x => x.1 == k) = true := by
          rw [List.any_cons] at ha
          have : (x.1 == k) = false := by simpa using hx
          rw [this, Bool.false_or] at ha
          exact ha
        have := ih hn.2 ha2
        unfold waitM at this
        rw [if_neg hx, this]
        omega
  · unfold waitM
    rw [List.map_append, List.sum_append]
    rfl
/-- Between the disk and the rows that are kept beside. -/
structure OrdI (d : Dk) (ws : List BX) (i : Nat) : Prop where
  form : ∃ m, d = ⟨8, m, false, false, 0, [], (i : Int)⟩
  total : waitM d.m = i
  len : ws.length = 8
  look : ∀ (n : Nat) (x : BX), ws[n]? = some x → lookM' d.m (n : Int) = (if x.2.2 = [] then none else some ⟨[], x.2.2.map fun b => [b]⟩) ∧ x.2.2.length ≤ i
theorem ord0 : OrdI (newD 8) (List.replicate 8 (none, 0, [])) 0 := by
  refine ⟨⟨[], rfl⟩, rfl, by simp, fun n x hx => ?_⟩
  have := List.eq_of_mem_replicate (List.mem_of_getElem? hx)
  subst this
  exact ⟨rfl, Nat.le_refl _⟩
theorem ordStep {d : Dk} {ws : List BX} {i k : Nat} {x : BX} {a : Option Addr} {c : Nat} {b : UInt8} (h : OrdI d ws i) (hok : d.ok) (hx : ws[k]? = some x) :
    (writeD d (k : Int) [b]).1 = 0 ∧ OrdI (writeD d (k : Int) [b]).2 (ws.set k (a, c, x.2.2 ++ [b])) (i + 1) := by
  obtain ⟨⟨m, rfl⟩, h2, h3, h4⟩ := h
  have hk : k < ws.length := (List.getElem?_eq_some_iff.1 hx).1
  have e : writeD ⟨8, m, false, false, 0, [], (i : Int)⟩ (k : Int) [b] = (0, ⟨8, addW m (k : Int) [b], false, false, 0, [], ((i + 1 : Nat) : Int)⟩) := by
    rw [writeD_ok rfl ⟨by omega, by show (k : Int) < 8; omega, by show 1 ≤ 512; omega⟩ rfl]; rfl
  rw [e]
  refine ⟨rfl, ⟨_, rfl⟩, ?_, by simpa using h3, fun n y hy => ?_⟩
  · show waitM (addW m (k : Int) [b]) = i + 1
    rw [waitM_add hok.2.2.1, h2]
  · show lookM' (addW m (k : Int) [b]) (n : Int) = _ ∧ _
    rw [look_add]
    rw [List.getElem?_set] at hy
    by_cases hnk : k = n
    · subst hnk
      rw [if_pos rfl, if_pos hk] at hy
      cases hy
      rw [if_pos rfl]
      have hlx := h4 k x hx
      refine ⟨?_, by have := hlx.2; simp; omega⟩
      have e1 : lookM' m (k : Int) = _ := hlx.1
      rw [e1]
      by_cases hb : x.2.2 = []
      · simp [hb]
      · simp [hb]
    · rw [if_neg hnk] at hy
      rw [if_neg (by omega)]
      have := h4 n y hy
      exact ⟨this.1, by have := this.2; omega⟩
theorem rank_step {m : List (Int × Sec)} (hn : (m.map (·.1)).Nodup) (n : Int) : rank m (n + 1) = rank m n + (if someW m n then 1 else 0) := by
  rw [rank_keys hn, rank_keys hn]
  have key : ∀ l : List Int, l.Nodup → (l.filter fun k' => decide (k' < n + 1) && someW m k').length = (l.filter fun k' => decide (k' < n) && someW m k').length + (if someW m n && l.contains n then 1 else 0) := by
    intro l hl
    induction l with
    | nil => simp
    | cons x l ih =>
      rw [List.nodup_cons] at hl
      have := ih hl.2
      by_cases hx : x = n
      · subst hx
        have hc : l.contains x = false := by rw [← Bool.not_eq_true, List.contains_iff_mem]; exact hl.1
        rw [hc] at this
        simp only [Bool.and_false, Bool.false_eq_true, if_false, Nat.add_zero] at this
        cases hs : someW m x
        · simp [List.filter_cons, hs, this, Int.lt_irrefl]
        · have h1 : x < x + 1 := by omega
          simp [List.filter_cons, hs, this, Int.lt_irrefl, h1]
      · have h1 : decide (x < n + 1) = decide (x < n) := decide_eq_decide.2 (by omega)
        have h2 : (x :: l).contains n = l.contains n := by
          rw [List.contains_cons]
          have : (n == x) = false := by simpa using fun e => hx e.symm
          rw [this, Bool.false_or]
        rw [h2, List.filter_cons, List.filter_cons, h1]
        split
        · simp only [List.length_cons]; omega
        · exact this
  rw [key _ hn]
  congr 1
  cases hs : someW m n
  · rfl
  · have : (m.map (·.1)).contains n = true := by
      rw [List.contains_iff_mem]
      unfold someW lookM' at hs
      cases hf : m.find? fun x => x.1 == n with
      | none => rw [hf] at hs; cases hs
      | some x =>
        have h1 := List.mem_of_find?_eq_some hf
        have h2 := List.find?_some hf
        exact List.mem_map.2 ⟨x, h1, by simpa using h2⟩
    rw [this]; rfl
theorem rank_zero {d : Dk} (h : d.ok) : rank d.m 0 = 0 := by
  unfold rank
  have : d.m.filter (fun x => decide (x.1 < 0) && !x.2.wait.isEmpty) = [] := List.filter_eq_nil_iff.2 fun x hx => by
    have := (h.2.2.2 x hx).1
    have : ¬ x.1 < 0 := by omega
    simp [this]
  rw [this]; rfl
/-- The first byte that is read. -/
def wantB (bs : List UInt8) (p : Nat) : UInt8 := if p = 0 then 0 else (bs[p - 1]?).getD 0
def ordP (d : Dk) (picks : List Int) (n : Nat) (bs : List UInt8) : Nat := if bs = [] then 0 else pickP picks (rank d.m (n : Int)) bs.length
theorem ordSome {d : Dk} {ws : List BX} {i n : Nat} {x : BX} (h : OrdI d ws i) (hx : ws[n]? = some x) : someW d.m (n : Int) = !x.2.2.isEmpty := by
  unfold someW
  rw [(h.look n x hx).1]
  cases x.2.2 <;> rfl
theorem ordRead {d : Dk} {ws : List BX} {i n : Nat} {x : BX} {picks : List Int} (h : OrdI d ws i) (hx : ws[n]? = some x) :
    (readD { crashD d picks with off := false, armed := 0 } (n : Int))[0]? = some (wantB x.2.2 (ordP d picks n x.2.2)) ∧ rdE { crashD d picks with off := false, armed := 0 } (n : Int) = 0 := by
  have hl := (h.look n x hx).1
  have hlen := h.len
  have hn8 : n < 8 := by have := (List.getElem?_eq_some_iff.1 hx).1; omega
  obtain ⟨⟨m, rfl⟩, h2, h3, h4⟩ := h
  rw [crashD_on rfl rfl]
  have hl : lookM' m (n : Int) = _ := hl
  constructor
  · unfold readD lookD
    show ((lookM' (crashM m picks) (n : Int)).map (fun s => full s.now) |>.getD (List.replicate 512 0))[0]? = _
    rw [look_crash, hl]
    by_cases hb : x.2.2 = []
    · rw [if_pos hb]
      unfold wantB ordP
      rw [if_pos hb]
      rfl
    · rw [if_neg hb]
      have hw : ¬ (x.2.2.map fun b => [b]) = [] := by simpa using hb
      show (full (crash1 m picks (n : Int) ⟨[], x.2.2.map fun b => [b]⟩).now)[0]? = _
      rw [crash1_some hw]
      unfold ordP
      rw [if_neg hb]
      show (full (DkM.settle _ (pickP picks (rank m (n : Int)) (x.2.2.map fun b => [b]).length)).now)[0]? = some (wantB x.2.2 (pickP picks (rank m (n : Int)) x.2.2.length))
      rw [List.length_map]
      have hp := pickP_le picks (rank m (n : Int)) x.2.2.length
      generalize pickP picks (rank m (n : Int)) x.2.2.length = p at hp
      unfold DkM.settle wantB
      by_cases hp0 : p = 0
      · rw [if_pos hp0, if_pos hp0]; rfl
      · rw [if_neg hp0, if_neg hp0, List.getElem?_map]
        have : p - 1 < x.2.2.length := by omega
        rw [List.getElem?_eq_getElem this]
        rfl
  · unfold rdE
    have e : stE ({ (⟨8, m, false, false, 0, [], (i : Int)⟩ : Dk) with off := false, armed := 0, m := crashM m picks }) = 0 := rfl
    show (if stE _ ≠ 0 then _ else _) = _
    rw [if_neg (by rw [show stE _ = 0 from rfl]; decide)]
    rw [if_pos ⟨by omega, by show (n : Int) < 8; omega⟩]
def BigB (ws : List BX) : HProp := Big (fun x : BX => Own 1 (.slice x.1 x.2.2.length x.2.1) x.2.2.length (bytesV x.2.2)) ws
theorem BigB.open {W0 w : World} {L : List HProp} {ws : List BX} {i : Nat} {x : BX} (hx : ws[i]? = some x) (H : On W0 (BigB ws :: L) w) : On W0 (Own 1 (.slice x.1 x.2.2.length x.2.1) x.2.2.length (bytesV x.2.2) :: BigB (ws.eraseIdx i) :: L) w := Big.open hx H
theorem BigB.close {W0 w : World} {L : List HProp} {ws : List BX} {i : Nat} {y : BX} (hi : i < ws.length) (H : On W0 (Own 1 (.slice y.1 y.2.2.length y.2.1) y.2.2.length (bytesV y.2.2) :: BigB (ws.eraseIdx i) :: L) w) : On W0 (BigB (ws.set i y) :: L) w := Big.close hi H
theorem ordZero {d : Dk} {picks : List Int} {n : Nat} : wantB [] (ordP d picks n []) = 0 := rfl
theorem bigEmpty {W0 w : World} {L : List HProp} (H : On W0 L w) : ∀ n, On W0 (BigB (List.replicate n (none, 0, [])) :: L) w
  | 0 => Big.nil H
  | n + 1 => by
    have h1 := bigEmpty H n
    have h2 := Big.push (A := fun x : BX => Own 1 (.slice x.1 x.2.2.length x.2.1) x.2.2.length (bytesV x.2.2)) (y := (none, 0, [])) (h1.ownEmpty 1 none)
    rw [List.replicate_succ']
    exact h2
end Go.Sl.DkM
