/-
  The network as plain data: what waits, how many were sent. No program is named here.
-/
import Derived.Test.YtiejlelkmklgcaaSlFind
namespace Go.Sl.NetM
open Go Go.Sl

theorem map_erase {α β : Type} (f : α → β) : ∀ (l : List α) (k : Nat), (l.eraseIdx k).map f = (l.map f).eraseIdx k := by
  intro l
  induction l with
  | nil => intro k; simp
  | cons x l ih => intro k; cases k with
    | zero => rfl
    | succ k => simp [ih]

structure Pk where
  f : Int
  t : Int
  bs : List UInt8
structure St where
  H : Int
  l : List Pk
  s : Int

def sendE (m : St) (f t : Int) (n : Nat) : Int :=
  if ¬ (0 ≤ f ∧ f < m.H ∧ 0 ≤ t ∧ t < m.H) then 1 else if 8192 < n then 5 else if 4096 ≤ m.l.length then 7 else 0
def send (m : St) (f t : Int) (bs : List UInt8) : St := if sendE m f t bs.length = 0 then { m with l := m.l ++ [⟨f, t, bs⟩], s := m.s + 1 } else m
def at? (m : St) (i : Int) : Option Pk := if 0 ≤ i then m.l[i.toNat]? else none
def out (m : St) (i : Int) : St := if (at? m i).isSome then { m with l := m.l.eraseIdx i.toNat } else m
def copyOk (m : St) (i : Int) : Bool := (at? m i).isSome && decide (m.l.length < 4096)
def copy (m : St) (i : Int) : St := match at? m i with
  | some p => if m.l.length < 4096 then { m with l := m.l ++ [p] } else m
  | none => m
def takeI (m : St) (to : Int) : Int := match m.l.findIdx? (fun p => p.t == to) with
  | some i => i
  | none => -1

theorem at?_some {m : St} {i : Int} (h0 : 0 ≤ i) (h1 : i < m.l.length) : ∃ p, at? m i = some p ∧ m.l[i.toNat]? = some p := by
  have hlt : i.toNat < m.l.length := by omega
  refine ⟨m.l[i.toNat], ?_, by simp [hlt]⟩
  simp [at?, h0, hlt]
theorem at?_none {m : St} {i : Int} (h : ¬ (0 ≤ i ∧ i < m.l.length)) : at? m i = none := by
  unfold at?
  split
  · rename_i h0; rw [List.getElem?_eq_none]; omega
  · rfl
theorem at?_isSome {m : St} {i : Int} : (at? m i).isSome = true ↔ 0 ≤ i ∧ i < m.l.length := by
  by_cases h : 0 ≤ i ∧ i < m.l.length
  · obtain ⟨p, hp, _⟩ := at?_some h.1 h.2
    simp [hp, h]
  · simp [at?_none h, h]

theorem out_none {m : St} {i : Int} (h : at? m i = none) : out m i = m := by unfold out; rw [h]; rfl
theorem out_some {m : St} {k : Nat} {p : Pk} (h : at? m k = some p) : out m k = { m with l := m.l.eraseIdx k } := by unfold out; rw [h]; rfl

/-- A packet as it lies: its data's slice beside what it reads as. -/
structure Q where
  f : Int
  t : Int
  v : Value
  bs : List UInt8
def Q.pk (q : Q) : Pk := ⟨q.f, q.t, q.bs⟩
def Q.cells (q : Q) : List Value := [.int .i64 q.f, .int .i64 q.t, q.v]
theorem Q.cells_length (q : Q) : q.cells.length = 3 := rfl
theorem cellsQ_length (qs : List Q) : (qs.flatMap Q.cells).length = qs.length * 3 := flatMap_length _ 3 Q.cells_length qs
def slc : Value → Bool
  | .slice _ _ _ => true
  | _ => false
theorem oneQ {qs : List Q} (h : ∀ q ∈ qs, slc q.v = true) : ∀ u ∈ qs.flatMap Q.cells, u.oneCell' = true := by
  intro u hu
  obtain ⟨q, hq, hu⟩ := List.mem_flatMap.1 hu
  simp only [Q.cells, List.mem_cons, List.not_mem_nil, or_false] at hu
  rcases hu with rfl | rfl | rfl
  · rfl
  · rfl
  · have := h q hq
    cases hv : q.v <;> rw [hv] at this <;> first | rfl | (simp [slc] at this)

/-- The net at block b: its own cells, the row of the packets; their data lie in the pool. -/
def NetP (T b : Nat) (m : St) (pool : List (Value × List UInt8)) : HProp := Ex fun (x : List Q × Option Addr × Nat) =>
  Pack (x.1.map Q.pk = m.l ∧ (∀ q ∈ x.1, (q.v, q.bs) ∈ pool) ∧ (∀ q ∈ x.1, slc q.v = true) ∧ ∀ q ∈ x.1, q.bs.length ≤ 8192)
    [blk b [.int .i64 m.H, .slice x.2.1 x.1.length x.2.2, .int .i64 m.s] T, Own 3 (.slice x.2.1 x.1.length x.2.2) x.1.length (x.1.flatMap Q.cells)]

section
variable {W0 w : World} {L : List HProp} {T b : Nat} {m : St} {pool pool' : List (Value × List UInt8)}
theorem openN (H : On W0 (NetP T b m pool :: L) w) : ∃ (qs : List Q) (a : Option Addr) (c : Nat), qs.map Q.pk = m.l ∧ (∀ q ∈ qs, (q.v, q.bs) ∈ pool) ∧ (∀ q ∈ qs, slc q.v = true) ∧ (∀ q ∈ qs, q.bs.length ≤ 8192) ∧
    On W0 (blk b [.int .i64 m.H, .slice a qs.length c, .int .i64 m.s] T :: Own 3 (.slice a qs.length c) qs.length (qs.flatMap Q.cells) :: L) w := by
  obtain ⟨⟨qs, a, c⟩, H⟩ := H.ex
  obtain ⟨⟨h1, h2, h3, h4⟩, H⟩ := H.unpack
  exact ⟨qs, a, c, h1, h2, h3, h4, H⟩
theorem closeN {qs : List Q} {a : Option Addr} {c : Nat} (h1 : qs.map Q.pk = m.l) (h2 : ∀ q ∈ qs, (q.v, q.bs) ∈ pool) (h3 : ∀ q ∈ qs, slc q.v = true) (h4 : ∀ q ∈ qs, q.bs.length ≤ 8192)
    (H : On W0 (blk b [.int .i64 m.H, .slice a qs.length c, .int .i64 m.s] T :: Own 3 (.slice a qs.length c) qs.length (qs.flatMap Q.cells) :: L) w) : On W0 (NetP T b m pool :: L) w :=
  On.exI (qs, a, c) (On.pack ⟨h1, h2, h3, h4⟩ H)
theorem poolN (h : ∀ p ∈ pool, p ∈ pool') (H : On W0 (NetP T b m pool :: L) w) : On W0 (NetP T b m pool' :: L) w := by
  obtain ⟨qs, a, c, h1, h2, h3, h4, H⟩ := openN H
  exact closeN h1 (fun q hq => h _ (h2 q hq)) h3 h4 H
end

/-- What a call that tells a packet answers. -/
def PkRes (r : Option Pk) (W0 : World) (L : List HProp) (v : Value) (w : World) : Prop := match r with
  | some p => ∃ a c, v = .tuple #[.agg #[.int .i64 p.f, .int .i64 p.t, .slice a p.bs.length c], .bool true] ∧ On W0 (OwnB (.slice a p.bs.length c) p.bs :: L) w
  | none => v = .tuple #[.agg #[.int .i64 0, .int .i64 0, .slice none 0 0], .bool false] ∧ On W0 L w
theorem PkRes.elim {r : Option Pk} {W0 w : World} {L : List HProp} {v : Value} (H : PkRes r W0 L v w) :
    (∃ p a c, r = some p ∧ v = .tuple #[.agg #[.int .i64 p.f, .int .i64 p.t, .slice a p.bs.length c], .bool true] ∧ On W0 (OwnB (.slice a p.bs.length c) p.bs :: L) w) ∨
    (r = none ∧ v = .tuple #[.agg #[.int .i64 0, .int .i64 0, .slice none 0 0], .bool false] ∧ On W0 L w) := by
  cases r with
  | none => exact .inr ⟨rfl, H⟩
  | some p => obtain ⟨a, c, h1, h2⟩ := H; exact .inl ⟨p, a, c, rfl, h1, h2⟩
theorem PkRes.some {p : Pk} {r : Option Pk} {W0 w : World} {L : List HProp} {v : Value} {a : Option Addr} {c : Nat} (hr : r = some p) (hv : v = .tuple #[.agg #[.int .i64 p.f, .int .i64 p.t, .slice a p.bs.length c], .bool true]) (H : On W0 (OwnB (.slice a p.bs.length c) p.bs :: L) w) : PkRes r W0 L v w := by
  subst hr; exact ⟨a, c, hv, H⟩
theorem PkRes.none {r : Option Pk} {W0 w : World} {L : List HProp} {v : Value} (hr : r = none) (hv : v = .tuple #[.agg #[.int .i64 0, .int .i64 0, .slice none 0 0], .bool false]) (H : On W0 L w) : PkRes r W0 L v w := by
  subst hr; exact ⟨hv, H⟩

theorem takeI_none {m : St} {to : Int} (h : ∀ (j : Nat) p, m.l[j]? = some p → p.t ≠ to) : takeI m to = -1 := by
  unfold takeI
  have : m.l.findIdx? (fun p => p.t == to) = none := by
    rw [List.findIdx?_eq_none_iff]
    intro p hp
    obtain ⟨j, hj⟩ := List.getElem?_of_mem hp
    simpa using h j p hj
  rw [this]
theorem takeI_some {m : St} {to : Int} {k : Nat} {p : Pk} (hk : m.l[k]? = some p) (hp : p.t = to) (h : ∀ (j : Nat) p, j < k → m.l[j]? = some p → p.t ≠ to) : takeI m to = k := by
  unfold takeI
  have : m.l.findIdx? (fun p => p.t == to) = some k := by
    obtain ⟨hlt, he⟩ := List.getElem?_eq_some_iff.1 hk
    rw [List.findIdx?_eq_some_iff_getElem]
    refine ⟨hlt, by simpa [he] using hp, fun j hj => ?_⟩
    have hjl : j < m.l.length := by omega
    have := h j m.l[j] hj (by simp [hjl])
    simpa using this
  rw [this]

/-! ### The reference's -/
def rk (p : Pk) : List Value := [.int .i64 p.f, .int .i64 p.t, .string ⟨p.bs.toArray⟩]
theorem rk_length (p : Pk) : (rk p).length = 3 := rfl
theorem oneR {l : List Pk} : ∀ u ∈ l.flatMap rk, u.oneCell' = true := by
  intro u hu
  obtain ⟨q, hq, hu⟩ := List.mem_flatMap.1 hu
  simp only [rk, List.mem_cons, List.not_mem_nil, or_false] at hu
  rcases hu with rfl | rfl | rfl <;> rfl
def RefP (T b : Nat) (m : St) : HProp := Ex fun (x : Option Addr × Nat) => Pack (m.l.length ≤ 4096) [blk b [.int .i64 m.H, .slice x.1 m.l.length x.2, .int .i64 m.s] T, Own 3 (.slice x.1 m.l.length x.2) m.l.length (m.l.flatMap rk)]
def rkV : Option Pk → Value
  | some p => .tuple #[.agg #[.int .i64 p.f, .int .i64 p.t, .string ⟨p.bs.toArray⟩], .bool true]
  | none => .tuple #[.agg #[.int .i64 0, .int .i64 0, .string ⟨#[]⟩], .bool false]
section
variable {W0 w : World} {L : List HProp} {T b : Nat} {m : St}
theorem openR (H : On W0 (RefP T b m :: L) w) : ∃ (a : Option Addr) (c : Nat), m.l.length ≤ 4096 ∧ On W0 (blk b [.int .i64 m.H, .slice a m.l.length c, .int .i64 m.s] T :: Own 3 (.slice a m.l.length c) m.l.length (m.l.flatMap rk) :: L) w := by
  obtain ⟨⟨a, c⟩, H⟩ := H.ex
  obtain ⟨h1, H⟩ := H.unpack
  exact ⟨a, c, h1, H⟩
theorem closeR {a : Option Addr} {c : Nat} (h1 : m.l.length ≤ 4096) (H : On W0 (blk b [.int .i64 m.H, .slice a m.l.length c, .int .i64 m.s] T :: Own 3 (.slice a m.l.length c) m.l.length (m.l.flatMap rk) :: L) w) : On W0 (RefP T b m :: L) w :=
  On.exI (a, c) (On.pack h1 H)
end
end Go.Sl.NetM
