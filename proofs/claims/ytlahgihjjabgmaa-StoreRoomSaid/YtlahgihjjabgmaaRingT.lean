/-
  Records let go. No program is named here.
-/
import Derived.Test.YtlahgihjjabgmaaRingO
namespace Go.Sl.RgM
open Go Go.Sl Go.Sl.ByM Go.Sl.DkM Go.Sl.TwM
set_option linter.unusedVariables false
set_option linter.unusedSimpArgs false
def g0R (at_ n first place life : Nat) : Rg := ⟨at_, n, first, place, 0, life, []⟩
theorem g0R_ok {at_ n first place life : Nat} (hn2 : 2 ≤ n) (hn4 : n ≤ 4096) (hat : at_ ≤ 4096) (hp : place < n) (hf : first ≤ 4000000000000000000) (hlf : life < 4294967296) : (g0R at_ n first place life).ok :=
  ⟨hn2, hn4, hat, hp, Nat.zero_le _, by show first + 0 ≤ _; omega, hlf, rfl, fun x hx => by cases hx⟩
theorem trimN_l (g : Rg) : ∀ i, (trimN g i).l = g.l.drop i ∧ (trimN g i).first = g.first + i ∧ (trimN g i).n = g.n ∧ (trimN g i).place = g.place
  | 0 => ⟨rfl, rfl, rfl, rfl⟩
  | i + 1 => by
    obtain ⟨h1, h2, h3, h4⟩ := trimN_l g i
    refine ⟨?_, ?_, h3, h4⟩
    · show (trimN g i).l.tail = _
      rw [h1, List.tail_drop]
    · show (trimN g i).first + 1 = _
      rw [h2]; omega
theorem rows_tail (ws : List RX) : (ws.flatMap RX.row).drop 2 = ws.tail.flatMap RX.row := by
  cases ws with
  | nil => rfl
  | cons x ws => rfl
theorem head_of {g : Rg} {x : LB} (h : g.l[0]? = some x) : (g.l.head?.map (·.2.length)).getD 0 = x.2.length := by rw [List.head?_eq_getElem?, h]; rfl
/-- A record that is let go. -/
theorem close_trim {W0 w : World} {L : List HProp} {TR br b : Nat} {g : Rg} {x : LB} {a : Option Addr} {c : Nat} {ws : List RX} {pool : PoolL} (h0 : g.ok) (hx : g.l[0]? = some x) (h1 : ws.map RX.key = g.l) (h2 : RowsOk pool ws)
    (H : On W0 (blk br [.pointer (some ⟨b, 0, none⟩), .int .i64 (g.at_ : Int), .int .i64 (g.n : Int), .int .u64 ((g.first + 1 : Nat) : Int), .int .i64 (g.place : Int), .int .i64 ((g.used - needR x.2.length : Nat) : Int), .int .u32 (g.life : Int), .slice a (g.l.length - 1) c] TR ::
      Own 2 (.slice a (g.l.length - 1) c) (g.l.length - 1) ((ws.flatMap RX.row).drop 2) :: Pool pool :: L) w) : On W0 (RingP TR br b (trimR g) :: L) w := by
  have hne : g.l ≠ [] := fun e => by rw [e] at hx; cases hx
  have hl : (trimR g).l.length = g.l.length - 1 := List.length_tail
  refine closeR (g := trimR g) (a := a) (c := c) (ws := ws.tail) (pool := pool) (h0.trim hne).1 ?_ (fun y hy => h2 y (List.mem_of_mem_tail hy)) ?_
  · rw [List.map_tail, h1]; rfl
  · rw [hl, ← rows_tail]
    have e : (trimR g).used = g.used - needR x.2.length := by
      show g.used - needR ((g.l.head?.map (·.2.length)).getD 0) = _
      rw [head_of hx]
    rw [e]
    exact H
/-- A row of one. -/
theorem openO1 {W0 w : World} {L : List HProp} {a : Option Addr} {c : Nat} {b : List UInt8} (H : On W0 (OutP a c [b] :: L) w) : ∃ (ba oa : Nat) (ax : Option Addr) (cx : Nat) (pool : PoolL), a = some ⟨ba, oa, none⟩ ∧ InP pool (.slice ax b.length cx) b ∧
    On W0 (Own 1 (.slice (some ⟨ba, oa, none⟩) 1 c) 1 [.slice ax b.length cx] :: Pool pool :: L) w := by
  obtain ⟨ws, pool, hws, hpl, h⟩ := openO H
  rcases ws with _ | ⟨x, _ | ⟨y, ws⟩⟩
  · cases hws
  · have hx2 : x.2 = b := by simpa using hws
    obtain ⟨hx3, hx4⟩ := hpl x (List.mem_singleton.2 rfl)
    rw [hx2] at hx3
    have h' : On W0 (Own 1 (.slice a 1 c) 1 [x.1] :: Pool pool :: L) w := h
    obtain ⟨ax, cx, hxv, _, _⟩ := hx3.form (h'.fetch (Pool pool))
    rw [hxv] at hx3 h'
    obtain ⟨ba, oa, rfl⟩ := Own.addr h' (by decide)
    exact ⟨ba, oa, ax, cx, pool, rfl, hx3, h'⟩
  · cases hws
/-- One of a row. -/
theorem out_elem {ws : List VX} {pool : PoolL} {bss : List (List UInt8)} {i : Nat} {b : List UInt8} (h1 : ws.map (·.2) = bss) (h2 : ∀ x ∈ ws, InP pool x.1 x.2 ∧ x.1.oneCell' = true) (hb : bss[i]? = some b) : ∃ v, (ws.map (·.1))[i]? = some v ∧ InP pool v b := by
  rw [← h1, List.getElem?_map] at hb
  cases hq : ws[i]? with
  | none => rw [hq] at hb; cases hb
  | some x =>
    rw [hq] at hb
    cases hb
    exact ⟨x.1, by rw [List.getElem?_map, hq]; rfl, (h2 x (List.mem_of_getElem? hq)).1⟩
theorem one_row {xs : List Value} {i : Nat} {v : Value} (h : xs[i]? = some v) : (xs.drop (i * 1)).take 1 = [v] := by
  obtain ⟨hlt, e⟩ := List.getElem?_eq_some_iff.1 h
  rw [Nat.mul_one, List.drop_eq_getElem_cons hlt, e]
  rfl
end Go.Sl.RgM
