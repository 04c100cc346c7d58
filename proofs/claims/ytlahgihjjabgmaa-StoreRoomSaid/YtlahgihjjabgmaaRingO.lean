/-
  Records kept one by one; what a power cut leaves of records of one sector. No program is named here.
-/
import Derived.Test.YtlahgihjjabgmaaRingQ
namespace Go.Sl.RgM
open Go Go.Sl Go.Sl.ByM Go.Sl.DkM Go.Sl.TwM
set_option linter.unusedVariables false
set_option linter.unusedSimpArgs false
def rgF (g : Rg) (bs : List (List UInt8)) : Rg := bs.foldl keepR g
def usedB (bs : List (List UInt8)) : Nat := (bs.map fun b => needR b.length).sum
theorem rgF_app (g : Rg) (bs : List (List UInt8)) (b : List UInt8) : rgF g (bs ++ [b]) = keepR (rgF g bs) b := by unfold rgF; rw [List.foldl_append]; rfl
theorem usedB_app (bs : List (List UInt8)) (b : List UInt8) : usedB (bs ++ [b]) = usedB bs + needR b.length := by unfold usedB; simp
theorem usedB_of (l : List LB) : usedB (l.map (·.2)) = usedR l := by unfold usedB usedR; rw [List.map_map]; rfl
structure RgFacts (g h : Rg) (bs : List (List UInt8)) : Prop where
  at_ : h.at_ = g.at_
  n : h.n = g.n
  first : h.first = g.first
  life : h.life = g.life
  used : h.used = g.used + usedB bs
  len : h.l.length = g.l.length + bs.length
  row : h.l.map (·.2) = g.l.map (·.2) ++ bs
theorem rgF_facts (g : Rg) : ∀ bs : List (List UInt8), RgFacts g (rgF g bs) bs := by
  intro bs
  generalize hn : bs.length = n
  induction n generalizing bs with
  | zero =>
    have : bs = [] := List.eq_nil_of_length_eq_zero hn
    subst this
    exact ⟨rfl, rfl, rfl, rfl, rfl, rfl, by show _ = _ ++ []; rw [List.append_nil]; rfl⟩
  | succ n ih =>
    obtain ⟨cs, b, rfl⟩ : ∃ cs b, bs = cs ++ [b] := ⟨bs.dropLast, bs.getLast (by intro e; subst e; cases hn), (List.dropLast_concat_getLast _).symm⟩
    have hc : cs.length = n := by simpa using hn
    obtain ⟨h1, h2, h3, h4, h5, h6, h7⟩ := ih cs hc
    rw [rgF_app]
    refine ⟨h1, h2, h3, h4, ?_, ?_, ?_⟩
    · show (rgF g cs).used + _ = _
      rw [h5, usedB_app]; omega
    · show ((rgF g cs).l ++ _).length = _
      rw [List.length_append, List.length_append, h6]; simp; omega
    · show ((rgF g cs).l ++ [((rgF g cs).place, b)]).map (·.2) = _
      rw [List.map_append, h7]; simp
theorem rgF_place {g : Rg} (hp : g.place < g.n) (bs : List (List UInt8)) : (rgF g bs).place = (g.place + usedB bs) % g.n := by
  generalize hn : bs.length = n
  induction n generalizing bs with
  | zero =>
    have : bs = [] := List.eq_nil_of_length_eq_zero hn
    subst this
    show g.place = (g.place + 0) % g.n
    rw [Nat.add_zero, Nat.mod_eq_of_lt hp]
  | succ n ih =>
    obtain ⟨cs, b, rfl⟩ : ∃ cs b, bs = cs ++ [b] := ⟨bs.dropLast, bs.getLast (by intro e; subst e; cases hn), (List.dropLast_concat_getLast _).symm⟩
    have hc : cs.length = n := by simpa using hn
    rw [rgF_app]
    show ((rgF g cs).place + _) % (rgF g cs).n = _
    rw [ih cs hc, (rgF_facts g cs).n, usedB_app, Nat.mod_add_mod, Nat.add_assoc]
theorem posR_mod {at_ n place i : Nat} : posR at_ n (place % n) i = posR at_ n place i := by
  have := posR_add (at_ := at_) (n := n) (place := place) (u := 0) (i := i)
  rw [Nat.add_zero, Nat.zero_add] at this
  exact this
theorem rg_head {g : Rg} (h : g.ok) : g.l.map (fun x => x.1) = g.l.map (fun x => x.1) := rfl
/-! ### Records of one sector, cut -/
def secs1 (bs : List (List UInt8)) (life : Nat) : List (Int × Sec) := (List.range bs.length).map fun (i : Nat) => ((i : Int), (⟨[], [secR (i + 1) life 0 1 (bs.getD i [])]⟩ : Sec))
theorem secs1_app (bs : List (List UInt8)) (b : List UInt8) (life : Nat) : secs1 (bs ++ [b]) life = secs1 bs life ++ [((bs.length : Int), ⟨[], [secR (bs.length + 1) life 0 1 b]⟩)] := by
  unfold secs1
  rw [List.length_append, List.length_singleton, List.range_succ, List.map_append]
  congr 1
  · refine List.map_congr_left fun i hi => ?_
    have := List.mem_range.1 hi
    rw [List.getD_eq_getElem?_getD, List.getD_eq_getElem?_getD, List.getElem?_append_left this]
  · simp
theorem secs1_add (bs : List (List UInt8)) (b : List UInt8) (life : Nat) : addW (secs1 bs life) (bs.length : Int) (secR (bs.length + 1) life 0 1 b) = secs1 (bs ++ [b]) life := by
  rw [secs1_app]
  unfold addW
  rw [if_neg]
  intro h
  obtain ⟨x, hx, he⟩ := List.any_eq_true.1 h
  obtain ⟨i, hi, rfl⟩ := List.mem_map.1 hx
  have := List.mem_range.1 hi
  have : (i : Int) = (bs.length : Int) := by simpa using he
  omega
theorem secs1_look {bs : List (List UInt8)} {life i : Nat} (h : i < bs.length) : lookM' (secs1 bs life) (i : Int) = some ⟨[], [secR (i + 1) life 0 1 (bs.getD i [])]⟩ := by
  have hn : ((secs1 bs life).map (·.1)).Nodup := by
    unfold secs1
    rw [List.map_map]
    exact List.Pairwise.map (S := fun a b : Int => a ≠ b) (fun (i : Nat) => (i : Int)) (fun a b e h => e (by omega)) (List.nodup_range (n := bs.length))
  exact look_mem hn (x := ((i : Int), _)) (List.mem_map.2 ⟨i, List.mem_range.2 h, rfl⟩)
theorem secs1_none {bs : List (List UInt8)} {life : Nat} {k : Int} (h : ∀ i : Nat, i < bs.length → k ≠ (i : Int)) : lookM' (secs1 bs life) k = none := by
  unfold lookM'
  rw [List.find?_eq_none.2]
  · rfl
  · intro x hx
    obtain ⟨i, hi, rfl⟩ := List.mem_map.1 hx
    have := h i (List.mem_range.1 hi)
    simpa using fun e => this e.symm
theorem secs1_rank {bs : List (List UInt8)} {life i : Nat} (h : i < bs.length) : rank (secs1 bs life) (i : Int) = i := by
  unfold rank secs1
  rw [List.filter_map, List.length_map]
  have e : ((fun (x : Int × Sec) => decide (x.1 < (i : Int)) && !x.2.wait.isEmpty) ∘ fun (i : Nat) => ((i : Int), (⟨[], [secR (i + 1) life 0 1 (bs.getD i [])]⟩ : Sec))) = fun (j : Nat) => decide (j < i) := by
    funext j
    show (decide ((j : Int) < (i : Int)) && true) = _
    rw [Bool.and_true]
    congr 1
    exact propext ⟨fun h => by omega, fun h => by omega⟩
  rw [e]
  generalize bs.length = m at h
  clear e
  induction m with
  | zero => omega
  | succ m ih =>
    rw [List.range_succ, List.filter_append, List.length_append]
    by_cases hm : i < m
    · rw [ih hm]
      simp [show ¬ m < i by omega]
    · have : i = m := by omega
      subst this
      have e2 : (List.range i).filter (fun j => decide (j < i)) = List.range i := List.filter_eq_self.2 fun j hj => by simpa using List.mem_range.1 hj
      rw [e2]
      simp
/-- What a sector reads as behind the cut. -/
theorem secs1_cut {d : Dk} {bs : List (List UInt8)} {picks : List Int} (hm : d.m = secs1 bs 1) (h0 : d.off = false) (h1 : d.dead = false) (hb : ∀ b ∈ bs, b.length ≤ 480) {i : Nat} {p : Nat} (hi : i < bs.length) (hp : picks[i]? = some (p : Int)) (hp1 : p ≤ 1) :
    readD (onD (crashD d picks)) (i : Int) = if p = 1 then secR (i + 1) 1 0 1 (bs.getD i []) else List.replicate 512 0 := by
  rw [crashD_on h0 h1]
  have hl := look_crash d.m picks (i : Int)
  rw [hm, secs1_look hi] at hl
  have hr : readD (onD { d with off := true, armed := 0, m := crashM d.m picks }) (i : Int) = ((some (crash1 (secs1 bs 1) picks (i : Int) ⟨[], [secR (i + 1) 1 0 1 (bs.getD i [])]⟩)).map fun s => full s.now).getD (List.replicate 512 0) := by
    refine read_look ?_
    show lookM' (crashM d.m picks) _ = _
    rw [hm, hl]
    rfl
  rw [hr, crash1_some (by simp), secs1_rank hi]
  have hbl : (bs.getD i []).length ≤ 480 := by
    rw [List.getD_eq_getElem?_getD, List.getElem?_eq_getElem hi]
    exact hb _ (List.getElem_mem hi)
  have hpk : pickP picks i [secR (i + 1) 1 0 1 (bs.getD i [])].length = p := by
    unfold pickP
    rw [hp]
    show ((p : Int) % (((1 : Nat) : Int) + 1)).toNat = p
    omega
  rw [hpk]
  show full (Sec.now (DkM.settle _ p)) = _
  unfold DkM.settle
  by_cases h : p = 1
  · subst h
    rw [if_pos rfl]
    exact full_id (secR_length hbl)
  · have : p = 0 := by omega
    subst this
    rw [if_pos rfl, if_neg (by decide)]
    rfl
theorem secs1_else {d : Dk} {bs : List (List UInt8)} {picks : List Int} (hm : d.m = secs1 bs 1) (h0 : d.off = false) (h1 : d.dead = false) {k : Int} (hk : ∀ i : Nat, i < bs.length → k ≠ (i : Int)) : readD (onD (crashD d picks)) k = List.replicate 512 0 := by
  rw [crashD_on h0 h1]
  have hl := look_crash d.m picks k
  rw [hm, secs1_none hk] at hl
  have hr : readD (onD { d with off := true, armed := 0, m := crashM d.m picks }) k = ((none : Option Sec).map fun s => full s.now).getD (List.replicate 512 0) := by
    refine read_look ?_
    show lookM' (crashM d.m picks) _ = _
    rw [hm, hl]
    rfl
  rw [hr]
  rfl
/-- A sector of an elder life, or none at all. -/
def Elder (s : List UInt8) (least : Nat) : Prop := (unpackR s).err ≠ 0 ∨ (unpackR s).life < least
theorem Elder.gone {d : Dk} {at_ n place number least life : Nat} (h : Elder (readD d (posR at_ n place 0)) least) : Gone d at_ n place number least life := by
  rcases h with h | h
  · exact .inl h
  · exact .inr (.inr (.inr (.inl h)))
theorem elder_zero (least : Nat) : Elder (List.replicate 512 0) least := .inl unpackR_zero
theorem elder_one {i : Nat} {b : List UInt8} {least : Nat} (hi : i + 1 < 256 ^ 8) (hb : b.length ≤ 480) (hl : 1 < least) : Elder (secR (i + 1) 1 0 1 b) least := .inr (by
  rw [unpack_secR hi (by decide) (by decide) (by decide) hb]; exact hl)
theorem part_small {b : List UInt8} (h : b.length ≤ 480) : partR b 0 = b := by
  unfold partR
  rw [List.take_of_length_le (by simpa using h)]
  simp
theorem here_one {d : Dk} {at_ n place number life : Nat} {b : List UInt8} (hb : b.length ≤ 480) (h : readD d (posR at_ n place 0) = secR number life 0 1 b) : Here d at_ n place number life b := fun i hi => by
  rw [needR_small hb] at hi ⊢
  have : i = 0 := by omega
  subst this
  rw [part_small hb]
  exact h
theorem usedB_small {bs : List (List UInt8)} (h : ∀ b ∈ bs, b.length ≤ 480) : usedB bs = bs.length := by
  unfold usedB
  induction bs with
  | nil => rfl
  | cons b bs ih =>
    rw [List.map_cons, List.sum_cons, ih (fun x hx => h x (by simp [hx])), needR_small (h b (by simp)), List.length_cons]
    omega
end Go.Sl.RgM
