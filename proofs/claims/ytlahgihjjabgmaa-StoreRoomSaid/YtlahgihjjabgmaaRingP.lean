/-
  A journal as it lies. No program is named here.
-/
import Derived.Test.YtlahgihjjabgmaaRingL
import Derived.Test.YtlahgihjjabgmaaSlB
namespace Go.Sl.RgM
open Go Go.Sl Go.Sl.ByM Go.Sl.DkM Go.Sl.TwM
set_option linter.unusedVariables false
set_option linter.unusedSimpArgs false
structure Rg where
  at_ : Nat
  n : Nat
  first : Nat
  place : Nat
  used : Nat
  life : Nat
  l : List LB
/-- A record's key is where it begins. -/
def Rg.next (g : Rg) : Nat := g.first + g.l.length
structure Rg.ok (g : Rg) : Prop where
  n2 : 2 ≤ g.n
  n4 : g.n ≤ 4096
  at4 : g.at_ ≤ 4096
  place : g.place < g.n
  used : g.used ≤ g.n
  first : g.first + g.l.length ≤ 9000000000000000000
  life : g.life < 4294967296
  sum : g.used = usedR g.l
  recs : ∀ x ∈ g.l, x.2.length ≤ 32768 ∧ x.1 < g.n
def keepR (g : Rg) (b : List UInt8) : Rg := { g with used := g.used + needR b.length, place := (g.place + needR b.length) % g.n, l := g.l ++ [(g.place, b)] }
def trimR (g : Rg) : Rg := { g with used := g.used - needR ((g.l.head?.map (·.2.length)).getD 0), first := g.first + 1, l := g.l.tail }
def trimN (g : Rg) : Nat → Rg
  | 0 => g
  | k + 1 => trimR (trimN g k)
theorem len_used : ∀ (l : List LB), l.length ≤ usedR l
  | [] => Nat.zero_le _
  | x :: l => by
    have h1 := needR_pos x.2.length
    have h2 := len_used l
    have e : usedR (x :: l) = needR x.2.length + usedR l := rfl
    rw [e, List.length_cons]
    omega
theorem Rg.ok.keep {g : Rg} (h : g.ok) {b : List UInt8} (hb : b.length ≤ 32768) (hr : g.used + needR b.length ≤ g.n) (hf : g.first + g.l.length + 1 ≤ 9000000000000000000) : (keepR g b).ok := by
  refine ⟨h.n2, h.n4, h.at4, Nat.mod_lt _ (by have := h.n2; omega), hr, ?_, h.life, ?_, ?_⟩
  · show g.first + (g.l ++ [(g.place, b)]).length ≤ _
    rw [List.length_append, List.length_singleton]; omega
  · show g.used + needR b.length = usedR (g.l ++ [(g.place, b)])
    rw [usedR_app, h.sum]
  · intro x hx
    rcases List.mem_append.1 hx with hx | hx
    · exact h.recs x hx
    · rw [List.mem_singleton.1 hx]; exact ⟨hb, h.place⟩
theorem Rg.ok.trim {g : Rg} (h : g.ok) (hl : g.l ≠ []) : (trimR g).ok ∧ (trimR g).used + needR ((g.l.head?.map (·.2.length)).getD 0) = g.used := by
  obtain ⟨at_, n, first, place, used, life, l⟩ := g
  cases l with
  | nil => exact absurd rfl hl
  | cons x l =>
    have hs : used = needR x.2.length + usedR l := h.sum
    have h1 : used ≤ n := h.used
    have h2 : first + (l.length + 1) ≤ 9000000000000000000 := h.first
    refine ⟨⟨h.n2, h.n4, h.at4, h.place, ?_, ?_, h.life, ?_, ?_⟩, ?_⟩
    · show used - needR x.2.length ≤ n
      omega
    · show first + 1 + l.length ≤ _
      omega
    · show used - needR x.2.length = usedR l
      omega
    · intro y hy
      exact h.recs y (List.mem_cons_of_mem _ hy)
    · show used - needR x.2.length + needR x.2.length = used
      omega
/-! ### As it lies -/
abbrev RX := Nat × Value × List UInt8
def RX.row (x : RX) : List Value := [.int .i64 (x.1 : Int), x.2.1]
theorem RX.row_length (x : RX) : x.row.length = 2 := rfl
def RX.key (x : RX) : LB := (x.1, x.2.2)
def RowsOk (pool : PoolL) (ws : List RX) : Prop := ∀ x ∈ ws, InP pool x.2.1 x.2.2 ∧ x.2.1.oneCell' = true
def rgV (b : Nat) (g : Rg) (a : Option Addr) (c : Nat) : List Value :=
  [.pointer (some ⟨b, 0, none⟩), .int .i64 (g.at_ : Int), .int .i64 (g.n : Int), .int .u64 (g.first : Int), .int .i64 (g.place : Int), .int .i64 (g.used : Int), .int .u32 (g.life : Int), .slice a g.l.length c]
def RingP (TR br b : Nat) (g : Rg) : HProp := Ex fun (y : Option Addr × Nat × List RX × PoolL) => Pack ((g.ok ∧ y.2.2.1.map RX.key = g.l) ∧ RowsOk y.2.2.2 y.2.2.1)
  [blk br (rgV b g y.1 y.2.1) TR, Own 2 (.slice y.1 g.l.length y.2.1) g.l.length (y.2.2.1.flatMap RX.row), Pool y.2.2.2]
section
variable {W0 w : World} {L : List HProp} {TR br b : Nat} {g : Rg}
theorem openR (H : On W0 (RingP TR br b g :: L) w) : ∃ (a : Option Addr) (c : Nat) (ws : List RX) (pool : PoolL), g.ok ∧ ws.map RX.key = g.l ∧ RowsOk pool ws ∧
    On W0 (blk br [.pointer (some ⟨b, 0, none⟩), .int .i64 (g.at_ : Int), .int .i64 (g.n : Int), .int .u64 (g.first : Int), .int .i64 (g.place : Int), .int .i64 (g.used : Int), .int .u32 (g.life : Int), .slice a g.l.length c] TR ::
      Own 2 (.slice a g.l.length c) g.l.length (ws.flatMap RX.row) :: Pool pool :: L) w := by
  obtain ⟨⟨a, c, ws, pool⟩, H⟩ := H.ex
  obtain ⟨⟨⟨h0, h1⟩, h2⟩, H⟩ := H.unpack
  exact ⟨a, c, ws, pool, h0, h1, h2, H⟩
theorem closeR {a : Option Addr} {c : Nat} {ws : List RX} {pool : PoolL} (h0 : g.ok) (h1 : ws.map RX.key = g.l) (h2 : RowsOk pool ws)
    (H : On W0 (blk br [.pointer (some ⟨b, 0, none⟩), .int .i64 (g.at_ : Int), .int .i64 (g.n : Int), .int .u64 (g.first : Int), .int .i64 (g.place : Int), .int .i64 (g.used : Int), .int .u32 (g.life : Int), .slice a g.l.length c] TR ::
      Own 2 (.slice a g.l.length c) g.l.length (ws.flatMap RX.row) :: Pool pool :: L) w) : On W0 (RingP TR br b g :: L) w :=
  On.exI (a, c, ws, pool) (On.pack ⟨⟨h0, h1⟩, h2⟩ H)
theorem ringOk (H : On W0 (RingP TR br b g :: L) w) : g.ok := by
  obtain ⟨_, _, _, _, h, _⟩ := openR H
  exact h
theorem RowsOk.mono {pool pool' : PoolL} {ws : List RX} (h : ∀ p ∈ pool, p ∈ pool') (H : RowsOk pool ws) : RowsOk pool' ws := fun x hx => ⟨(H x hx).1.mono h, (H x hx).2⟩
theorem RowsOk.one {pool : PoolL} {ws : List RX} (H : RowsOk pool ws) : ∀ u ∈ ws.flatMap RX.row, u.oneCell' = true := fun u hu => by
  obtain ⟨x, hx, hu⟩ := List.mem_flatMap.1 hu
  simp [RX.row] at hu
  rcases hu with rfl | rfl
  · rfl
  · exact (H x hx).2
theorem flat_app (ws : List RX) (x : RX) : (ws ++ [x]).flatMap RX.row = ws.flatMap RX.row ++ x.row := by simp
/-! ### Rows of bytes -/
abbrev VX := Value × List UInt8
def OutP (a : Option Addr) (c : Nat) (bss : List (List UInt8)) : HProp := Ex fun (y : List VX × PoolL) => Pack (y.1.map (·.2) = bss ∧ ∀ x ∈ y.1, InP y.2 x.1 x.2 ∧ x.1.oneCell' = true)
  [Own 1 (.slice a bss.length c) bss.length (y.1.map (·.1)), Pool y.2]
theorem openO {a : Option Addr} {c : Nat} {bss : List (List UInt8)} (H : On W0 (OutP a c bss :: L) w) : ∃ (ws : List VX) (pool : PoolL), ws.map (·.2) = bss ∧ (∀ x ∈ ws, InP pool x.1 x.2 ∧ x.1.oneCell' = true) ∧
    On W0 (Own 1 (.slice a bss.length c) bss.length (ws.map (·.1)) :: Pool pool :: L) w := by
  obtain ⟨⟨ws, pool⟩, H⟩ := H.ex
  obtain ⟨⟨h1, h2⟩, H⟩ := H.unpack
  exact ⟨ws, pool, h1, h2, H⟩
theorem closeO {a : Option Addr} {c : Nat} {bss : List (List UInt8)} {ws : List VX} {pool : PoolL} (h1 : ws.map (·.2) = bss) (h2 : ∀ x ∈ ws, InP pool x.1 x.2 ∧ x.1.oneCell' = true)
    (H : On W0 (Own 1 (.slice a bss.length c) bss.length (ws.map (·.1)) :: Pool pool :: L) w) : On W0 (OutP a c bss :: L) w := On.exI (ws, pool) (On.pack ⟨h1, h2⟩ H)
theorem out_nil (H : On W0 L w) : On W0 (OutP none 0 [] :: L) w :=
  closeO (ws := []) (pool := []) rfl (fun x hx => by cases hx) (H.pool0.ownEmpty 1 none)
theorem out_push {a a2 : Option Addr} {c c2 : Nat} {bss : List (List UInt8)} {v : Value} {b : List UInt8} {ws : List VX} {pool : PoolL} (h1 : ws.map (·.2) = bss) (h2 : ∀ x ∈ ws, InP pool x.1 x.2 ∧ x.1.oneCell' = true) (hv : v.oneCell' = true)
    (H : On W0 (Own 1 (.slice a2 (bss.length + 1) c2) (bss.length + 1) (ws.map (·.1) ++ [v]) :: OwnB v b :: Pool pool :: L) w) : On W0 (OutP a2 c2 (bss ++ [b]) :: L) w := by
  have h3 := (On.toPool H.p2.p2).p1
  have e : (bss ++ [b]).length = bss.length + 1 := by simp
  refine closeO (ws := ws ++ [(v, b)]) (pool := (v, b) :: pool) (by rw [List.map_append, h1]; rfl) ?_ (by rw [e, List.map_append]; exact h3)
  intro x hx
  rcases List.mem_append.1 hx with hx | hx
  · exact ⟨(h2 x hx).1.mono fun p hp => List.mem_cons_of_mem _ hp, (h2 x hx).2⟩
  · rw [List.mem_singleton.1 hx]; exact ⟨.inl (List.mem_cons_self ..), hv⟩
theorem ring_push {a2 : Option Addr} {c2 : Nat} {v : Value} {bs : List UInt8} {ws : List RX} {pool : PoolL} (hb : bs.length ≤ 32768) (hr : g.used + needR bs.length ≤ g.n) (hf : g.first + g.l.length + 1 ≤ 9000000000000000000)
    (h0 : g.ok) (h1 : ws.map RX.key = g.l) (h2 : RowsOk pool ws) (hv : v.oneCell' = true)
    (H : On W0 (blk br [.pointer (some ⟨b, 0, none⟩), .int .i64 (g.at_ : Int), .int .i64 (g.n : Int), .int .u64 (g.first : Int), .int .i64 (((g.place + needR bs.length) % g.n : Nat) : Int), .int .i64 ((g.used + needR bs.length : Nat) : Int), .int .u32 (g.life : Int), .slice a2 (g.l.length + 1) c2] TR ::
      Own 2 (.slice a2 (g.l.length + 1) c2) (g.l.length + 1) (ws.flatMap RX.row ++ [.int .i64 (g.place : Int), v]) :: OwnB v bs :: Pool pool :: L) w) : On W0 (RingP TR br b (keepR g bs) :: L) w := by
  have e : (keepR g bs).l.length = g.l.length + 1 := by show (g.l ++ [(g.place, bs)]).length = _; simp
  have h3 := On.toPool ((H.fetch (Pool pool)).fetch (OwnB v bs))
  refine closeR (a := a2) (c := c2) (ws := ws ++ [(g.place, v, bs)]) (pool := (v, bs) :: pool) (h0.keep hb hr hf) (by rw [List.map_append, h1]; rfl) ?_ ?_
  · intro x hx
    rcases List.mem_append.1 hx with hx | hx
    · exact ⟨(h2 x hx).1.mono fun p hp => List.mem_cons_of_mem _ hp, (h2 x hx).2⟩
    · rw [List.mem_singleton.1 hx]; exact ⟨.inl (List.mem_cons_self ..), hv⟩
  · rw [e, flat_app]
    exact h3.p2.p2
end
end Go.Sl.RgM
