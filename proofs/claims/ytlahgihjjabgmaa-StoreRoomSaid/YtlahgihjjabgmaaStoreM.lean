/-
  A store on a disk: head, snapshot, entries: plain, and as it lies. No program is named here.
-/
import Derived.Test.YtlahgihjjabgmaaRingT
namespace Go.Sl.StM
open Go Go.Sl Go.Sl.ByM Go.Sl.DkM Go.Sl.TwM Go.Sl.RgM
set_option linter.unusedVariables false
set_option linter.unusedSimpArgs false
/-! ### The head -/
structure Hd where
  epoch : Nat
  life : Nat
  which : Nat
  base : Nat
  size : Nat
  first : Nat
  place : Nat
structure Hd.ok (h : Hd) : Prop where
  epoch : h.epoch < 18446744073709551616
  life : h.life < 4294967296
  which : h.which ≤ 1
  base : h.base < 18446744073709551616
  size : h.size ≤ 24576
  first : h.first < 18446744073709551616
  place : h.place < 65536
def headB (h : Hd) : List UInt8 := be h.epoch 8 ++ be h.life 4 ++ be h.which 1 ++ be h.base 8 ++ be h.size 4 ++ be h.first 8 ++ be h.place 2
theorem headB_length (h : Hd) : (headB h).length = 35 := by unfold headB; simp only [List.length_append, be_length]
theorem head_fields {h : Hd} (o : h.ok) : fieldR (headB h) 0 8 = h.epoch ∧ fieldR (headB h) 8 4 = h.life ∧ fieldR (headB h) 12 1 = h.which ∧ fieldR (headB h) 13 8 = h.base ∧ fieldR (headB h) 21 4 = h.size ∧ fieldR (headB h) 25 8 = h.first ∧ fieldR (headB h) 33 2 = h.place := by
  obtain ⟨h1, h2, h3, h4, h5, h6, h7⟩ := o
  unfold headB
  refine ⟨?_, ?_, ?_, ?_, ?_, ?_, ?_⟩
  · have := field_at (x := []) (y := be h.life 4 ++ be h.which 1 ++ be h.base 8 ++ be h.size 4 ++ be h.first 8 ++ be h.place 2) (v := h.epoch) (a := 0) (k := 8) rfl h1
    simp only [List.append_assoc, List.nil_append] at this ⊢
    exact this
  · have := field_at (x := be h.epoch 8) (y := be h.which 1 ++ be h.base 8 ++ be h.size 4 ++ be h.first 8 ++ be h.place 2) (v := h.life) (a := 8) (k := 4) (be_length _ _) h2
    simp only [List.append_assoc] at this ⊢
    exact this
  · have := field_at (x := be h.epoch 8 ++ be h.life 4) (y := be h.base 8 ++ be h.size 4 ++ be h.first 8 ++ be h.place 2) (v := h.which) (a := 12) (k := 1) (by simp only [List.length_append, be_length]) (by omega)
    simp only [List.append_assoc] at this ⊢
    exact this
  · have := field_at (x := be h.epoch 8 ++ be h.life 4 ++ be h.which 1) (y := be h.size 4 ++ be h.first 8 ++ be h.place 2) (v := h.base) (a := 13) (k := 8) (by simp only [List.length_append, be_length]) h4
    simp only [List.append_assoc] at this ⊢
    exact this
  · have := field_at (x := be h.epoch 8 ++ be h.life 4 ++ be h.which 1 ++ be h.base 8) (y := be h.first 8 ++ be h.place 2) (v := h.size) (a := 21) (k := 4) (by simp only [List.length_append, be_length]) (by omega)
    simp only [List.append_assoc] at this ⊢
    exact this
  · have := field_at (x := be h.epoch 8 ++ be h.life 4 ++ be h.which 1 ++ be h.base 8 ++ be h.size 4) (y := be h.place 2) (v := h.first) (a := 25) (k := 8) (by simp only [List.length_append, be_length]) h6
    simp only [List.append_assoc] at this ⊢
    exact this
  · have := field_at (x := be h.epoch 8 ++ be h.life 4 ++ be h.which 1 ++ be h.base 8 ++ be h.size 4 ++ be h.first 8) (y := []) (v := h.place) (a := 33) (k := 2) (by simp only [List.length_append, be_length]) (by omega)
    simp only [List.append_assoc, List.append_nil] at this ⊢
    exact this
/-! ### Entries -/
structure En where
  idx : Nat
  ep : Nat
  data : List UInt8
def enB (e : En) : List UInt8 := be e.idx 8 ++ be e.ep 8 ++ e.data
theorem enB_length (e : En) : (enB e).length = 16 + e.data.length := by unfold enB; simp only [List.length_append, be_length]
theorem en_fields {e : En} (h1 : e.idx < 256 ^ 8) (h2 : e.ep < 256 ^ 8) : fieldR (enB e) 0 8 = e.idx ∧ fieldR (enB e) 8 8 = e.ep ∧ (enB e).drop 16 = e.data := by
  unfold enB
  refine ⟨?_, ?_, ?_⟩
  · have := field_at (x := []) (y := be e.ep 8 ++ e.data) (v := e.idx) (a := 0) (k := 8) rfl h1
    simp only [List.append_assoc, List.nil_append] at this ⊢
    exact this
  · have := field_at (x := be e.idx 8) (y := e.data) (v := e.ep) (a := 8) (k := 8) (be_length _ _) h2
    simp only [List.append_assoc] at this ⊢
    exact this
  · exact List.drop_left' (by simp only [List.length_append, be_length])
/-! ### The journal's rows on the disk -/
structure JI (d : Dk) (first P0 lv : Nat) (rows : List (List UInt8)) : Prop where
  here : ∀ j b, rows[j]? = some b → Here d 98 256 ((P0 + usedB (rows.take j)) % 256) (first + j) lv b ∧ b.length ≤ 32768
  used : usedB rows ≤ 256
  num : ∀ q : Nat, q < 256 → (unpackR (readD d ((98 + q : Nat) : Int))).err ≠ 0 ∨ (unpackR (readD d ((98 + q : Nat) : Int))).number < first + rows.length
theorem usedB_take_le (l : List (List UInt8)) (j : Nat) : usedB (l.take j) ≤ usedB l := by
  unfold usedB
  conv => rhs; rw [← List.take_append_drop j l]
  rw [List.map_append, List.sum_append]
  omega
theorem usedB_split (l : List (List UInt8)) (j : Nat) : usedB (l.take j) + usedB (l.drop j) = usedB l := by
  unfold usedB
  conv => rhs; rw [← List.take_append_drop j l]
  rw [List.map_append, List.sum_append]
theorem posR_lt (place i : Nat) : ∃ q : Nat, q < 256 ∧ posR 98 256 place i = ((98 + q : Nat) : Int) := ⟨(place + i) % 256, Nat.mod_lt _ (by decide), rfl⟩
theorem JI.same {d d' : Dk} {first P0 lv : Nat} {rows : List (List UInt8)} (J : JI d first P0 lv rows) (h : ∀ q : Nat, q < 256 → readD d' ((98 + q : Nat) : Int) = readD d ((98 + q : Nat) : Int)) : JI d' first P0 lv rows := by
  refine ⟨fun j b hb => ?_, J.used, fun q hq => by rw [h q hq]; exact J.num q hq⟩
  obtain ⟨h1, h2⟩ := J.here j b hb
  refine ⟨fun i hi => ?_, h2⟩
  obtain ⟨q, hq, e⟩ := posR_lt ((P0 + usedB (rows.take j)) % 256) i
  have := h1 i hi
  rw [e] at this ⊢
  rw [h q hq]; exact this
theorem JI.blank {d : Dk} {first P0 lv : Nat} (h : ∀ q : Nat, q < 256 → readD d ((98 + q : Nat) : Int) = List.replicate 512 0) : JI d first P0 lv [] :=
  ⟨fun j b hb => by simp at hb, Nat.zero_le _, fun q hq => .inl (by rw [h q hq]; exact unpackR_zero)⟩
theorem JI.drop {d : Dk} {first P0 lv : Nat} {rows : List (List UInt8)} (J : JI d first P0 lv rows) (k : Nat) (hk : k ≤ rows.length) : JI d (first + k) ((P0 + usedB (rows.take k)) % 256) lv (rows.drop k) := by
  refine ⟨fun j b hb => ?_, ?_, fun q hq => ?_⟩
  · rw [List.getElem?_drop] at hb
    obtain ⟨h1, h2⟩ := J.here (k + j) b hb
    refine ⟨?_, h2⟩
    have e : ((P0 + usedB (rows.take k)) % 256 + usedB ((rows.drop k).take j)) % 256 = (P0 + usedB (rows.take (k + j))) % 256 := by
      have e2 : usedB (rows.take (k + j)) = usedB (rows.take k) + usedB ((rows.drop k).take j) := by
        rw [List.take_add]
        unfold usedB
        rw [List.map_append, List.sum_append]
      rw [Nat.mod_add_mod, e2, Nat.add_assoc]
    rw [e, Nat.add_assoc first k j]
    exact h1
  · have := usedB_split rows k
    have := J.used
    omega
  · rw [List.length_drop]
    rcases J.num q hq with h | h
    · exact .inl h
    · exact .inr (by omega)
def lvs (lv : Nat) (rows : List (List UInt8)) : List LB := rows.map fun b => (lv, b)
theorem lvs_bytes (lv : Nat) (rows : List (List UInt8)) : (lvs lv rows).map (·.2) = rows := by unfold lvs; rw [List.map_map]; exact List.map_id _
theorem lvs_used (lv : Nat) (rows : List (List UInt8)) : usedR (lvs lv rows) = usedB rows := by rw [← usedB_of, lvs_bytes]
theorem lvs_take (lv : Nat) (rows : List (List UInt8)) (j : Nat) : (lvs lv rows).take j = lvs lv (rows.take j) := by unfold lvs; rw [List.map_take]
theorem JI.chain {d : Dk} {first P0 lv life : Nat} {rows : List (List UInt8)} (J : JI d first P0 lv rows) (hl : lv ≤ life) : Chain d 98 256 P0 first life (lvs lv rows) := by
  have hll : (lvs lv rows).length = rows.length := List.length_map ..
  refine ⟨fun j x hx => ?_, by rw [lvs_used]; exact J.used, .inr ?_⟩
  · unfold lvs at hx
    rw [List.getElem?_map] at hx
    cases hb : rows[j]? with
    | none => rw [hb] at hx; cases hx
    | some b =>
      rw [hb] at hx
      cases hx
      obtain ⟨h1, h2⟩ := J.here j b hb
      rw [lvs_take, lvs_used]
      refine ⟨h1, ?_, hl, h2⟩
      unfold leastR
      cases hg : (lvs lv (rows.take j)).getLast? with
      | none => exact Nat.zero_le _
      | some x =>
        have hm := List.mem_of_getLast? hg
        obtain ⟨y, _, rfl⟩ := List.mem_map.1 hm
        exact Nat.le_refl _
  · rw [lvs_used, hll]
    obtain ⟨q, hq, e⟩ := posR_lt ((P0 + usedB rows) % 256) 0
    unfold Gone
    rw [e]
    rcases J.num q hq with h | h
    · exact .inl h
    · exact .inr (.inl (by omega))
theorem JI.app {d : Dk} {first P0 lv : Nat} {rows : List (List UInt8)} {b : List UInt8} (J : JI d first P0 lv rows) (hl : Live d) (hn : d.n = 354) (hb : b.length ≤ 32768) (hroom : usedB rows + needR b.length ≤ 256) (hf : first + rows.length < 256 ^ 8) (hlv : lv < 256 ^ 4) :
    JI (appD d 98 256 ((P0 + usedB rows) % 256) (first + rows.length) lv b (needR b.length)) first P0 lv (rows ++ [b]) := by
  have hin : ((98 + 256 : Nat) : Int) ≤ d.n := by rw [hn]; decide
  have else_ : ∀ k' : Int, (∀ j, j < needR b.length → k' ≠ posR 98 256 ((P0 + usedB rows) % 256) j) → readD (appD d 98 256 ((P0 + usedB rows) % 256) (first + rows.length) lv b (needR b.length)) k' = readD d k' := fun k' h => app_else hl (by decide) hin _ h
  refine ⟨fun j c hc => ?_, by rw [usedB_app]; exact hroom, fun q hq => ?_⟩
  · by_cases hj : j < rows.length
    · rw [List.getElem?_append_left hj] at hc
      obtain ⟨h1, h2⟩ := J.here j c hc
      rw [List.take_append_of_le_length (by omega)]
      refine ⟨fun i hi => ?_, h2⟩
      rw [else_, h1 i hi]
      intro p hp e
      have hu := usedB_take_le rows (j + 1)
      have ht : rows.take (j + 1) = rows.take j ++ [c] := by rw [List.take_add_one, hc]; rfl
      rw [ht, usedB_app] at hu
      rw [posR_add, posR_add] at e
      have := posR_inj (i := usedB (rows.take j) + i) (j := usedB rows + p) (by omega) (by omega) e
      omega
    · have hj2 : j = rows.length := by
        have := (List.getElem?_eq_some_iff.1 hc).1
        rw [List.length_append, List.length_singleton] at this
        omega
      subst hj2
      rw [List.getElem?_append_right (Nat.le_refl _), Nat.sub_self] at hc
      cases hc
      rw [List.take_left]
      exact ⟨fun i hi => app_here hl (by decide) hin _ i hi (by omega), hb⟩
  · rw [List.length_append, List.length_singleton]
    by_cases hw : ∃ j, j < needR b.length ∧ ((98 + q : Nat) : Int) = posR 98 256 ((P0 + usedB rows) % 256) j
    · obtain ⟨j, hj, e⟩ := hw
      rw [e, app_here hl (by decide) hin _ j hj (by omega), unpack_secR hf hlv hj (by omega) (partR_le b j)]
      exact .inr (by show first + rows.length < _; omega)
    · rw [else_ _ (fun j hj e => hw ⟨j, hj, e⟩)]
      rcases J.num q hq with h | h
      · exact .inl h
      · exact .inr (by omega)
/-! ### The journal in memory -/
structure RgAt (g : Rg) (first P0 lv : Nat) (rows : List (List UInt8)) : Prop where
  at_ : g.at_ = 98
  n : g.n = 256
  first : g.first = first
  life : g.life = lv
  row : g.l.map (·.2) = rows
  where_ : ∀ (j : Nat) (x : LB), g.l[j]? = some x → x.1 = (P0 + usedB (rows.take j)) % 256
  place : g.place = (P0 + usedB rows) % 256
  used : g.used = usedB rows
theorem RgAt.len {g : Rg} {first P0 lv : Nat} {rows : List (List UInt8)} (R : RgAt g first P0 lv rows) : g.l.length = rows.length := by rw [← R.row, List.length_map]
theorem RgAt.next {g : Rg} {first P0 lv : Nat} {rows : List (List UInt8)} (R : RgAt g first P0 lv rows) : g.next = first + rows.length := by unfold Rg.next; rw [R.first, R.len]
theorem RgAt.new (first P0 lv : Nat) (h : P0 < 256) : RgAt (g0R 98 256 first P0 lv) first P0 lv [] :=
  ⟨rfl, rfl, rfl, rfl, rfl, fun j x hx => (by cases hx), by show P0 = (P0 + 0) % 256; rw [Nat.add_zero, Nat.mod_eq_of_lt h], rfl⟩
theorem RgAt.app {g : Rg} {first P0 lv : Nat} {rows : List (List UInt8)} (R : RgAt g first P0 lv rows) (b : List UInt8) : RgAt (keepR g b) first P0 lv (rows ++ [b]) := by
  refine ⟨R.at_, R.n, R.first, R.life, ?_, fun j x hx => ?_, ?_, ?_⟩
  · show (g.l ++ [(g.place, b)]).map (·.2) = _
    rw [List.map_append, R.row]; rfl
  · have hx : (g.l ++ [(g.place, b)])[j]? = some x := hx
    by_cases hj : j < g.l.length
    · rw [List.getElem?_append_left hj] at hx
      rw [R.where_ j x hx, List.take_append_of_le_length (by rw [← R.len]; omega)]
    · have hj2 : j = g.l.length := by
        have := (List.getElem?_eq_some_iff.1 hx).1
        rw [List.length_append, List.length_singleton] at this
        omega
      subst hj2
      rw [List.getElem?_append_right (Nat.le_refl _), Nat.sub_self] at hx
      cases hx
      rw [R.len, List.take_left]
      exact R.place
  · show (g.place + needR b.length) % g.n = _
    rw [R.n, R.place, usedB_app, Nat.mod_add_mod, Nat.add_assoc]
  · show g.used + needR b.length = _
    rw [R.used, usedB_app]
theorem RgAt.row_open (first P0 lv : Nat) (h : P0 < 256) (rows : List (List UInt8)) : RgAt (rgF (g0R 98 256 first P0 lv) rows) first P0 lv rows := by
  generalize hn : rows.length = n
  induction n generalizing rows with
  | zero =>
    have : rows = [] := List.eq_nil_of_length_eq_zero hn
    subst this
    exact RgAt.new first P0 lv h
  | succ n ih =>
    obtain ⟨cs, b, rfl⟩ : ∃ cs b, rows = cs ++ [b] := ⟨rows.dropLast, rows.getLast (by intro e; subst e; cases hn), (List.dropLast_concat_getLast _).symm⟩
    rw [rgF_app]
    exact (ih cs (by simpa using hn)).app b
theorem RgAt.trim1 {g : Rg} {first P0 lv : Nat} {b : List UInt8} {rows : List (List UInt8)} (R : RgAt g first P0 lv (b :: rows)) : RgAt (trimR g) (first + 1) ((P0 + needR b.length) % 256) lv rows := by
  obtain ⟨at_, n, fi, pl, us, li, l⟩ := g
  cases l with
  | nil => have := R.row; cases this
  | cons x l =>
    have hrow := R.row
    have hx2 : x.2 = b := by have := congrArg List.head? hrow; simpa using this
    have hl2 : l.map (·.2) = rows := by have := congrArg List.tail hrow; simpa using this
    have hu : us = usedB (b :: rows) := R.used
    have hue : usedB (b :: rows) = needR b.length + usedB rows := by unfold usedB; simp
    refine ⟨R.at_, R.n, by show fi + 1 = _; have : fi = first := R.first; omega, R.life, hl2, fun j y hy => ?_, ?_, ?_⟩
    · have := R.where_ (j + 1) y hy
      rw [this, List.take_succ_cons, Nat.mod_add_mod]
      have e : usedB (b :: rows.take j) = needR b.length + usedB (rows.take j) := by unfold usedB; simp
      rw [e, Nat.add_assoc]
    · have : pl = (P0 + usedB (b :: rows)) % 256 := R.place
      show pl = _
      rw [this, hue, Nat.mod_add_mod, Nat.add_assoc]
    · show us - needR x.2.length = _
      rw [hx2]; omega
theorem RgAt.trim {g : Rg} {first P0 lv : Nat} {rows : List (List UInt8)} (R : RgAt g first P0 lv rows) : ∀ k, k ≤ rows.length → RgAt (trimN g k) (first + k) ((P0 + usedB (rows.take k)) % 256) lv (rows.drop k)
  | 0, _ => by
    have hp := R.place
    refine ⟨R.at_, R.n, R.first, R.life, R.row, fun j x hx => ?_, ?_, R.used⟩
    · rw [R.where_ j x hx, List.take_zero, Nat.mod_add_mod]; rfl
    · show g.place = _
      rw [hp, List.take_zero, Nat.mod_add_mod]; rfl
  | k + 1, hk => by
    have ih := R.trim k (by omega)
    obtain ⟨b, hb⟩ : ∃ b, rows[k]? = some b := ⟨rows[k]'(by omega), List.getElem?_eq_getElem _⟩
    have e1 : rows.drop k = b :: rows.drop (k + 1) := by
      rw [List.drop_eq_getElem_cons (by omega), (List.getElem?_eq_some_iff.1 hb).2]
    rw [e1] at ih
    have := ih.trim1
    have e2 : usedB (rows.take (k + 1)) = usedB (rows.take k) + needR b.length := by
      rw [List.take_add_one, hb]
      exact usedB_app _ _
    rw [Nat.mod_add_mod, Nat.add_assoc P0, ← e2] at this
    exact this
theorem RgAt.where0 {g : Rg} {first P0 lv : Nat} {rows : List (List UInt8)} (R : RgAt g first P0 lv rows) (h : P0 < 256) : (g.l.head?.map (·.1)).getD g.place = P0 := by
  cases hl : g.l with
  | nil =>
    have : rows = [] := by rw [← R.row, hl]; rfl
    show g.place = P0
    rw [R.place, this]
    show (P0 + 0) % 256 = P0
    rw [Nat.add_zero, Nat.mod_eq_of_lt h]
  | cons x l =>
    have := R.where_ 0 x (by rw [hl]; rfl)
    show x.1 = P0
    rw [this, List.take_zero]
    show (P0 + 0) % 256 = P0
    rw [Nat.add_zero, Nat.mod_eq_of_lt h]
/-! ### Snapshots -/
def partS (s : List UInt8) (i : Nat) : List UInt8 := (s.drop (i * 512)).take 512
theorem partS_le (s : List UInt8) (i : Nat) : (partS s i).length ≤ 512 := by unfold partS; rw [List.length_take]; omega
def SnapOn (d : Dk) (w : Nat) (s : List UInt8) : Prop := ∀ i : Nat, i * 512 < s.length → readD d ((2 + w * 48 + i : Nat) : Int) = full (partS s i)
def saveW (d : Dk) (w : Nat) (s : List UInt8) : Nat → Dk
  | 0 => d
  | i + 1 => (writeD (saveW d w s i) ((2 + w * 48 + i : Nat) : Int) (partS s i)).2
theorem part_cutS (s : List UInt8) (i : Nat) : (s.drop (i * 512)).take (min (i * 512 + 512) s.length - i * 512) = partS s i := by
  unfold partS
  by_cases h : i * 512 + 512 ≤ s.length
  · rw [Nat.min_eq_left h, show i * 512 + 512 - i * 512 = 512 by omega]
  · rw [Nat.min_eq_right (by omega), List.take_of_length_le (by rw [List.length_drop]; omega), List.take_of_length_le (by rw [List.length_drop]; omega)]
section
variable {d : Dk} {w : Nat} {s : List UInt8}
theorem save_live (h : Live d) (hn : d.n = 354) (hw : w ≤ 1) : ∀ i, i ≤ 48 → Live (saveW d w s i) ∧ (saveW d w s i).n = 354 ∧ (saveW d w s i).calls = d.calls + i ∧
    (∀ p : Int, (∀ j : Nat, j < i → p ≠ ((2 + w * 48 + j : Nat) : Int)) → readD (saveW d w s i) p = readD d p) ∧ (∀ j : Nat, j < i → readD (saveW d w s i) ((2 + w * 48 + j : Nat) : Int) = full (partS s j))
  | 0, _ => ⟨h, hn, by show d.calls = d.calls + ((0 : Nat) : Int); omega, fun p _ => rfl, fun j hj => by omega⟩
  | i + 1, hi => by
    obtain ⟨l, n, c, r1, r2⟩ := save_live h hn hw i (by omega)
    obtain ⟨e1, l1, rr⟩ := live_write (k := ((2 + w * 48 + i : Nat) : Int)) (bs := partS s i) l ⟨by omega, by rw [n]; omega⟩ (partS_le s i)
    refine ⟨l1, (writeD_n _ _ _).trans n, ?_, fun p hp => ?_, fun j hj => ?_⟩
    · show (writeD _ _ _).2.calls = _
      rw [e1]
      show (saveW d w s i).calls + 1 = _
      rw [c]; omega
    · show readD (writeD _ _ _).2 p = _
      rw [rr, if_neg (hp i (Nat.lt_succ_self i)), r1 p (fun j hj => hp j (by omega))]
    · show readD (writeD _ _ _).2 _ = _
      rw [rr]
      by_cases hji : j = i
      · subst hji; rw [if_pos rfl]
      · rw [if_neg (by omega), r2 j (by omega)]
end
/-- What is read of a snapshot. -/
theorem snap_front {s out z : List UInt8} {i : Nat} (ho : out = s.take (i * 512) ++ z) (hz : i * 512 ≤ s.length → z = []) (hlt : i * 512 < s.length) : ∃ z', out ++ full (partS s i) = s.take ((i + 1) * 512) ++ z' ∧ ((i + 1) * 512 ≤ s.length → z' = []) := by
  have hz0 : z = [] := hz (by omega)
  subst hz0
  rw [List.append_nil] at ho
  subst ho
  have e : s.take ((i + 1) * 512) = s.take (i * 512) ++ partS s i := by
    unfold partS
    rw [show (i + 1) * 512 = i * 512 + 512 by omega, List.take_add]
  unfold full
  rw [List.take_of_length_le (partS_le s i), e]
  refine ⟨List.replicate (512 - (partS s i).length) 0, by rw [List.append_assoc], fun hh => ?_⟩
  have : (partS s i).length = 512 := by unfold partS; rw [List.length_take, List.length_drop]; omega
  rw [this]
  rfl
/-! ### As it lies -/
abbrev EX := En × Value
def EX.row (x : EX) : List Value := [.int .u64 (x.1.idx : Int), .int .u64 (x.1.ep : Int), x.2]
theorem EX.row_length (x : EX) : x.row.length = 3 := rfl
def EnsOk (pool : PoolL) (ws : List EX) : Prop := ∀ x ∈ ws, InP pool x.2 x.1.data ∧ x.2.oneCell' = true
theorem EnsOk.one {pool : PoolL} {ws : List EX} (H : EnsOk pool ws) : ∀ u ∈ ws.flatMap EX.row, u.oneCell' = true := fun u hu => by
  obtain ⟨x, hx, hu⟩ := List.mem_flatMap.1 hu
  simp [EX.row] at hu
  rcases hu with rfl | rfl | rfl
  · rfl
  · rfl
  · exact (H x hx).2
def hdV (h : Hd) : List Value := [.int .u64 (h.epoch : Int), .int .u32 (h.life : Int), .int .i64 (h.which : Int), .int .u64 (h.base : Int), .int .i64 (h.size : Int), .int .u64 (h.first : Int), .int .i64 (h.place : Int)]
def stV (b bt br : Nat) (h : Hd) (sv lv : Value) : List Value := [.pointer (some ⟨b, 0, none⟩), .pointer (some ⟨bt, 0, none⟩), .pointer (some ⟨br, 0, none⟩),
  .int .u64 (h.epoch : Int), .int .u32 (h.life : Int), .int .i64 (h.which : Int), .int .u64 (h.base : Int), .int .i64 (h.size : Int), .int .u64 (h.first : Int), .int .i64 (h.place : Int), sv, lv]
def StoreP (TG bs b bt br : Nat) (h : Hd) (snap : List UInt8) (es : List En) : HProp := Ex fun (y : Option Addr × Nat × Option Addr × Nat × List EX × PoolL) => Pack (y.2.2.2.2.1.map (·.1) = es ∧ EnsOk y.2.2.2.2.2 y.2.2.2.2.1)
  [blk bs (stV b bt br h (.slice y.1 snap.length y.2.1) (.slice y.2.2.1 es.length y.2.2.2.1)) TG, OwnB (.slice y.1 snap.length y.2.1) snap, Own 3 (.slice y.2.2.1 es.length y.2.2.2.1) es.length (y.2.2.2.2.1.flatMap EX.row), Pool y.2.2.2.2.2]
section
variable {W0 w : World} {L : List HProp} {TG bs b bt br : Nat} {h : Hd} {snap : List UInt8} {es : List En}
theorem openSt (H : On W0 (StoreP TG bs b bt br h snap es :: L) w) : ∃ (a1 : Option Addr) (c1 : Nat) (a2 : Option Addr) (c2 : Nat) (ws : List EX) (pool : PoolL), ws.map (·.1) = es ∧ EnsOk pool ws ∧
    On W0 (blk bs [.pointer (some ⟨b, 0, none⟩), .pointer (some ⟨bt, 0, none⟩), .pointer (some ⟨br, 0, none⟩), .int .u64 (h.epoch : Int), .int .u32 (h.life : Int), .int .i64 (h.which : Int), .int .u64 (h.base : Int), .int .i64 (h.size : Int), .int .u64 (h.first : Int), .int .i64 (h.place : Int), .slice a1 snap.length c1, .slice a2 es.length c2] TG ::
      OwnB (.slice a1 snap.length c1) snap :: Own 3 (.slice a2 es.length c2) es.length (ws.flatMap EX.row) :: Pool pool :: L) w := by
  obtain ⟨⟨a1, c1, a2, c2, ws, pool⟩, H⟩ := H.ex
  obtain ⟨⟨h1, h2⟩, H⟩ := H.unpack
  exact ⟨a1, c1, a2, c2, ws, pool, h1, h2, H⟩
theorem closeSt {a1 : Option Addr} {c1 : Nat} {a2 : Option Addr} {c2 : Nat} {ws : List EX} {pool : PoolL} (h1 : ws.map (·.1) = es) (h2 : EnsOk pool ws)
    (H : On W0 (blk bs [.pointer (some ⟨b, 0, none⟩), .pointer (some ⟨bt, 0, none⟩), .pointer (some ⟨br, 0, none⟩), .int .u64 (h.epoch : Int), .int .u32 (h.life : Int), .int .i64 (h.which : Int), .int .u64 (h.base : Int), .int .i64 (h.size : Int), .int .u64 (h.first : Int), .int .i64 (h.place : Int), .slice a1 snap.length c1, .slice a2 es.length c2] TG ::
      OwnB (.slice a1 snap.length c1) snap :: Own 3 (.slice a2 es.length c2) es.length (ws.flatMap EX.row) :: Pool pool :: L) w) : On W0 (StoreP TG bs b bt br h snap es :: L) w :=
  On.exI (a1, c1, a2, c2, ws, pool) (On.pack ⟨h1, h2⟩ H)
theorem en_get {ws : List EX} (h : ws.map (·.1) = es) {k : Nat} {e : En} (he : es[k]? = some e) : ∃ v, ws[k]? = some (e, v) := by
  rw [← h, List.getElem?_map] at he
  cases hq : ws[k]? with
  | none => rw [hq] at he; cases he
  | some q => rw [hq] at he; cases he; exact ⟨q.2, rfl⟩
theorem ens_push {ws : List EX} {pool : PoolL} {e : En} {v : Value} (h1 : ws.map (·.1) = es) (h2 : EnsOk pool ws) (hv : v.oneCell' = true) : (ws ++ [(e, v)]).map (·.1) = es ++ [e] ∧ EnsOk ((v, e.data) :: pool) (ws ++ [(e, v)]) ∧ (ws ++ [(e, v)]).flatMap EX.row = ws.flatMap EX.row ++ [.int .u64 (e.idx : Int), .int .u64 (e.ep : Int), v] := by
  refine ⟨by rw [List.map_append, h1]; rfl, fun x hx => ?_, by simp [EX.row]⟩
  rcases List.mem_append.1 hx with hx | hx
  · exact ⟨(h2 x hx).1.mono fun p hp => List.mem_cons_of_mem _ hp, (h2 x hx).2⟩
  · rw [List.mem_singleton.1 hx]; exact ⟨.inl (List.mem_cons_self ..), hv⟩
theorem ens_drop {ws : List EX} {pool : PoolL} (h1 : ws.map (·.1) = es) (h2 : EnsOk pool ws) (k : Nat) : (ws.drop k).map (·.1) = es.drop k ∧ EnsOk pool (ws.drop k) ∧ (ws.flatMap EX.row).drop (k * 3) = (ws.drop k).flatMap EX.row := by
  refine ⟨by rw [List.map_drop, h1], fun x hx => h2 x (List.mem_of_mem_drop hx), ?_⟩
  clear h1 h2
  induction k generalizing ws with
  | zero => rw [Nat.zero_mul]; rfl
  | succ k ih =>
    cases ws with
    | nil => simp
    | cons x ws =>
      have := ih (ws := ws)
      rw [List.drop_succ_cons, ← this, List.flatMap_cons, show (k + 1) * 3 = x.row.length + k * 3 by rw [EX.row_length]; omega, List.drop_append]
      simp
end
/-! ### All of it -/
structure SI (d : Dk) (h : Hd) (tn : Nat) (snap : List UInt8) (es : List En) (g : Rg) : Prop where
  live : Live d
  n : d.n = 354
  hok : h.ok
  place : h.place < 256
  tw : TwI d 0 tn (headB h)
  size : snap.length = h.size
  on : SnapOn d h.which snap
  ri : RgAt g h.first h.place 2 (es.map enB)
  ji : JI d h.first h.place 2 (es.map enB)
  ens : ∀ (j : Nat) (e : En), es[j]? = some e → e.idx = h.base + 1 + j ∧ e.ep < 256 ^ 8 ∧ e.data.length ≤ 2048
  flat : Flat d
end Go.Sl.StM
