/-
  Values on two sectors, on a disk that has power: plain. No program is named here.
-/
import Derived.Test.YtlahgihjjabgmaaTwinM
namespace Go.Sl.TwM
open Go Go.Sl Go.Sl.ByM Go.Sl.DkM
set_option linter.unusedVariables false
structure Live (d : Dk) : Prop where
  off : d.off = false
  dead : d.dead = false
  armed : d.armed = 0
theorem Live.st {d : Dk} (h : Live d) : stE d = 0 := by unfold stE; rw [if_neg (by rw [h.dead]; decide), if_neg (by rw [h.off]; decide)]
theorem Live.call {d : Dk} (h : Live d) : callD d = (0, { d with calls := d.calls + 1 }) := callD_none (by rw [h.armed]; decide)
theorem full_id {bs : List UInt8} (h : bs.length = 512) : full bs = bs := by
  unfold full
  rw [List.take_of_length_le (by omega), h]
  simp
theorem full_nil : full [] = List.replicate 512 0 := rfl
theorem read_look {d : Dk} {k : Int} {o : Option Sec} (h : lookM' d.m k = o) : readD d k = (o.map fun s => full s.now).getD (List.replicate 512 0) := by
  unfold readD lookD
  rw [h]
theorem live_write {d : Dk} {k : Int} {bs : List UInt8} (h : Live d) (hk : 0 ≤ k ∧ k < d.n) (hb : bs.length ≤ 512) :
    writeD d k bs = (0, { d with calls := d.calls + 1, m := addW d.m k bs }) ∧ Live (writeD d k bs).2 ∧ ∀ k', readD (writeD d k bs).2 k' = if k' = k then full bs else readD d k' := by
  have e : writeD d k bs = (0, { d with calls := d.calls + 1, m := addW d.m k bs }) := by
    rw [writeD_ok h.st ⟨hk.1, hk.2, hb⟩ (by rw [h.call]), h.call]
  rw [e]
  refine ⟨rfl, ⟨h.off, h.dead, h.armed⟩, fun k' => ?_⟩
  have hl := look_add d.m k bs k'
  by_cases hkk : k' = k
  · rw [if_pos hkk] at hl ⊢
    rw [read_look (d := { d with calls := d.calls + 1, m := addW d.m k bs }) hl]
    show full (Sec.now _) = _
    unfold Sec.now
    simp
  · rw [if_neg hkk] at hl ⊢
    rw [read_look (d := { d with calls := d.calls + 1, m := addW d.m k bs }) hl]
    rfl
theorem live_flush {d : Dk} (h : Live d) : flushD d = (0, { d with calls := d.calls + 1, m := flushM d.m }) ∧ Live (flushD d).2 ∧ ∀ k', readD (flushD d).2 k' = readD d k' := by
  have e : flushD d = (0, { d with calls := d.calls + 1, m := flushM d.m }) := by
    rw [flushD_ok h.st (by rw [h.call]), h.call]
  rw [e]
  refine ⟨rfl, ⟨h.off, h.dead, h.armed⟩, fun k' => ?_⟩
  have hl := look_flush d.m k'
  rw [read_look (d := { d with calls := d.calls + 1, m := flushM d.m }) hl]
  unfold readD lookD
  cases lookM' d.m k' with
  | none => rfl
  | some s => rfl
/-- A first value. -/
theorem format_live {d : Dk} {at_ : Int} {v : List UInt8} (h : Live d) (hi : inT d at_) (hv : v.length ≤ 488) :
    (formatT d at_ v).1 = 0 ∧ Live (formatT d at_ v).2 ∧ (formatT d at_ v).2.n = d.n ∧ (formatT d at_ v).2.calls = d.calls + 3 ∧
    ∀ k, readD (formatT d at_ v).2 k = if k = at_ + 1 then secT 1 v else if k = at_ then List.replicate 512 0 else readD d k := by
  have hi2 := hi
  obtain ⟨h1, h2⟩ := hi2
  have hs : (secT 1 v).length = 512 := secT_length hv
  obtain ⟨e1, l1, r1⟩ := live_write (k := at_) (bs := []) h ⟨h1, by omega⟩ (by decide)
  have n1 := writeD_n d at_ []
  obtain ⟨e2, l2, r2⟩ := live_write (k := at_ + 1) (bs := secT 1 v) l1 ⟨by omega, by rw [n1]; omega⟩ (by omega)
  have n2 := writeD_n (writeD d at_ []).2 (at_ + 1) (secT 1 v)
  obtain ⟨e3, l3, r3⟩ := live_flush l2
  have n3 := flushD_n (writeD (writeD d at_ []).2 (at_ + 1) (secT 1 v)).2
  have ef : formatT d at_ v = flushD (writeD (writeD d at_ []).2 (at_ + 1) (secT 1 v)).2 := by
    unfold formatT
    rw [if_neg (fun hh => hh hi), if_neg (by omega)]
    have f0 : (fmtS d at_ (secT 1 v) 0).1 = 0 := by show (writeD d at_ []).1 = 0; rw [e1]
    have f1 : (fmtS d at_ (secT 1 v) 1).1 = 0 := by show (writeD (writeD d at_ []).2 (at_ + 1) (secT 1 v)).1 = 0; rw [e2]
    rw [if_neg (by rw [f0]; decide), if_neg (by rw [f1]; decide)]
    rfl
  rw [ef]
  refine ⟨by rw [e3], l3, by rw [n3, n2, n1], ?_, fun k => ?_⟩
  · rw [e3]
    show (writeD (writeD d at_ []).2 (at_ + 1) (secT 1 v)).2.calls + 1 = _
    rw [e2]
    show (writeD d at_ []).2.calls + 1 + 1 = _
    rw [e1]
    show d.calls + 1 + 1 + 1 = _
    omega
  · rw [r3, r2]
    by_cases hk : k = at_ + 1
    · rw [if_pos hk, if_pos hk, full_id hs]
    · rw [if_neg hk, if_neg hk, r1]
      by_cases hk2 : k = at_
      · rw [if_pos hk2, if_pos hk2]; rfl
      · rw [if_neg hk2, if_neg hk2]
/-- Another value. -/
theorem put_live {d : Dk} {at_ : Int} {number : Nat} {v : List UInt8} (h : Live d) (hi : inT d at_) (hv : v.length ≤ 488) :
    (putT d at_ number v).1 = 0 ∧ Live (putT d at_ number v).2 ∧ (putT d at_ number v).2.n = d.n ∧ (putT d at_ number v).2.calls = d.calls + 2 ∧
    ∀ k, readD (putT d at_ number v).2 k = if k = at_ + ((number + 1 : Nat) : Int) % 2 then secT (number + 1) v else readD d k := by
  have hi2 := hi
  obtain ⟨h1, h2⟩ := hi2
  have hs : (secT (number + 1) v).length = 512 := secT_length hv
  obtain ⟨q, hq⟩ : ∃ q : Int, q = ((number + 1 : Nat) : Int) % 2 := ⟨_, rfl⟩
  have hq2 : q = 0 ∨ q = 1 := by omega
  obtain ⟨e1, l1, r1⟩ := live_write (k := at_ + q) (bs := secT (number + 1) v) h ⟨by omega, by omega⟩ (by omega)
  have n1 := writeD_n d (at_ + q) (secT (number + 1) v)
  obtain ⟨e3, l3, r3⟩ := live_flush l1
  have n3 := flushD_n (writeD d (at_ + q) (secT (number + 1) v)).2
  have ep : putT d at_ number v = flushD (writeD d (at_ + q) (secT (number + 1) v)).2 := by
    subst hq
    unfold putT
    rw [if_neg (by omega), if_neg (by rw [e1]; show ¬ ((0 : Int) ≠ 0); decide)]
  rw [ep, ← hq]
  refine ⟨by rw [e3], l3, by rw [n3, n1], ?_, fun k => ?_⟩
  · rw [e3]
    show (writeD d (at_ + q) (secT (number + 1) v)).2.calls + 1 = _
    rw [e1]
    show d.calls + 1 + 1 = _
    omega
  · rw [r3, r1]
    split
    · exact full_id hs
    · rfl
/-- The greater one is found. -/
theorem open_pick {d : Dk} {at_ : Int} {n p : Nat} {v X : List UInt8} (h : stE d = 0) (hi : inT d at_) (hn : n < 256 ^ 8) (hv : v.length ≤ 488) (hp : n % 2 = p)
    (h1 : readD d (at_ + p) = secT n v) (h2 : readD d (at_ + (1 - p : Nat)) = X) (hx : (unpackT X).2.2 ≠ 0 ∨ (unpackT X).1 < n) : openT d at_ = (some (n, v), 0) := by
  have hu := unpack_sec hn hv
  refine openT_some hi h ?_
  have hp2 : p = 0 ∨ p = 1 := by omega
  rcases hp2 with rfl | rfl
  · have e0 : openAcc d at_ 1 = some (n, v) := by
      show openSt none 0 (readD d (at_ + (0 : Nat))) = _
      rw [h1, openSt_take (by rw [hu]) (by rw [hu]; exact hp) (fun hh => by cases hh), hu]
    show openSt (openAcc d at_ 1) 1 (readD d (at_ + (1 : Nat))) = _
    rw [e0]
    have h2' : readD d (at_ + (1 : Nat)) = X := h2
    rw [h2']
    refine openSt_skip ?_
    rcases hx with hx | hx
    · exact .inl hx
    · by_cases hpar : (unpackT X).1 % 2 ≠ 1
      · exact .inr (.inl hpar)
      · exact .inr (.inr ⟨rfl, hx⟩)
  · have h2' : readD d (at_ + (0 : Nat)) = X := h2
    show openSt (openAcc d at_ 1) 1 (readD d (at_ + (1 : Nat))) = _
    rw [h1, openSt_take (by rw [hu]) (by rw [hu]; exact hp) ?_, hu]
    rw [hu]
    show (openSt none 0 (readD d (at_ + (0 : Nat)))).isSome = true → ¬ n < tvN (openSt none 0 (readD d (at_ + (0 : Nat))))
    rw [h2']
    unfold openSt
    split
    · intro hh; cases hh
    · rename_i hno
      intro _
      show ¬ n < (unpackT X).1
      rcases hx with hx | hx
      · exact absurd (.inl hx) hno
      · omega
theorem zero_bad : (unpackT (List.replicate 512 0)).2.2 ≠ 0 := by
  rcases unpack_zero with h | h <;> (rw [h]; decide)
theorem open_blank {d : Dk} {at_ : Int} (h : stE d = 0) (hi : inT d at_) (h1 : ∀ k, readD d k = List.replicate 512 0) : openT d at_ = (none, 2) := by
  refine openT_none hi h ?_
  show openSt (openSt none 0 (readD d (at_ + (0 : Nat)))) 1 (readD d (at_ + (1 : Nat))) = none
  rw [h1, h1, openSt_skip (.inl zero_bad), openSt_skip (.inl zero_bad)]
theorem newLive (n : Int) : Live (newD n) := ⟨rfl, rfl, rfl⟩
theorem new_read (n k : Int) : readD (newD n) k = List.replicate 512 0 := rfl
end Go.Sl.TwM
namespace Go.Sl.TwM
open Go Go.Sl Go.Sl.ByM Go.Sl.DkM
/-- A value that is found. -/
structure TwI (d : Dk) (at_ : Int) (n : Nat) (v : List UInt8) : Prop where
  live : Live d
  at_in : inT d at_
  num : n < 256 ^ 8
  len : v.length ≤ 488
  here : readD d (at_ + ((n % 2 : Nat) : Int)) = secT n v
  other : (unpackT (readD d (at_ + ((1 - n % 2 : Nat) : Int)))).2.2 ≠ 0 ∨ (unpackT (readD d (at_ + ((1 - n % 2 : Nat) : Int)))).1 < n
theorem TwI.opens {d : Dk} {at_ : Int} {n : Nat} {v : List UInt8} (T : TwI d at_ n v) : openT d at_ = (some (n, v), 0) :=
  open_pick T.live.st T.at_in T.num T.len rfl T.here rfl T.other
theorem TwI.format {d : Dk} {at_ : Int} {v : List UInt8} (h : Live d) (hi : inT d at_) (hv : v.length ≤ 488) : TwI (formatT d at_ v).2 at_ 1 v := by
  obtain ⟨e, l, n, c, r⟩ := format_live h hi hv
  refine ⟨l, ?_, by decide, hv, ?_, .inl ?_⟩
  · unfold inT at hi ⊢; rw [n]; exact hi
  · rw [r, if_pos (by show at_ + ((1 : Nat) : Int) = _; omega)]
  · rw [r, if_neg (by show ¬ at_ + ((0 : Nat) : Int) = _; omega), if_pos (by show at_ + ((0 : Nat) : Int) = _; omega)]
    exact zero_bad
theorem TwI.put {d : Dk} {at_ : Int} {n : Nat} {v v2 : List UInt8} (T : TwI d at_ n v) (hn : n + 1 < 256 ^ 8) (hv : v2.length ≤ 488) : TwI (putT d at_ n v2).2 at_ (n + 1) v2 := by
  obtain ⟨e, l, hnn, c, r⟩ := put_live (number := n) T.live T.at_in hv
  refine ⟨l, ?_, hn, hv, ?_, ?_⟩
  · have := T.at_in; unfold inT at this ⊢; rw [hnn]; exact this
  · rw [r, if_pos (by omega)]
  · have e1 : 1 - (n + 1) % 2 = n % 2 := by omega
    rw [r, if_neg (by omega), e1, T.here, unpack_sec T.num T.len]
    exact .inr (Nat.lt_succ_self n)
end Go.Sl.TwM
