/-
  Commands of blocks, one behind the other: the bytes that are kept beside. No program is named here.
-/
import Derived.Test.YtdpakoefdpmebaaUnitLaw
import Derived.Test.YtdpakoefdpmebaaSlB
namespace Go.Sl.UnM
open Go Go.Sl Go.Sl.BitM Go.Sl.SpM Go.Sl.RsM Go.Sl.ByM
set_option linter.unusedVariables false
/-- A command as an argument reads. -/
structure CmX where
  kind : Int
  at_ : Int
  n : Int
  ax : Option Addr
  ac : Nat
  bs : List UInt8
  key : Int
  new : Int
  typ : Int
  force : Bool
def CmX.cells (c : CmX) : List Value := [.int .i64 c.kind, .int .i64 c.at_, .int .i64 c.n, .slice c.ax c.bs.length c.ac, .int .u64 c.key, .int .u64 c.new, .int .i64 c.typ, .bool c.force]
def CmX.cm (c : CmX) : Cm := ⟨c.kind, c.at_, c.n, c.bs, c.key, c.new, c.typ, c.force⟩
/-- An act of a play. -/
structure A17 where
  h : Int
  c : CmX
  once : Bool
  id : Int
  floor : Int
  code : Bool
def A17.cells (a : A17) : List Value := .int .i64 a.h :: (a.c.cells ++ [.bool a.once, .int .u64 a.id, .int .u64 a.floor, .bool a.code])
theorem A17.cells_length (a : A17) : a.cells.length = 13 := rfl
abbrev NX : Nat := 16
def seqU (s : Sp) : Un := (newU 16).setS s
theorem seq_ok (s : Sp) : okC (seqU s) ∧ small 1000000 (seqU s) := ⟨calm_okC (calm_setS (calm_new 16)), calm_small (calm_setS (calm_new 16))⟩
theorem seq_do {s s' : Sp} {r : Rp} {i : Nat} {c : Cm} (hi : i < 8) (h2 : 2 ≤ c.kind) (h6 : c.kind ≤ 6) (h : runM s c = (s', r)) : doM (seqU s) i c = (seqU s', r) := by
  rw [do_run (u := seqU s) hi h2 h6 (calm_setS (calm_new 16))]
  rw [show (seqU s).s = s from rfl, h]
  rfl
theorem seq_new : seqU (newS 16) = newU 16 := rfl
/-! ### What each command does to the bytes -/
section
variable {s : Sp} {p q : Nat} {bs : List UInt8} {k n t : Int} {f : Bool}
theorem run_out {c : Cm} (h : ¬ inS s c.at_ c.n) : runM s c = (s, plain 2 5 8448) := by unfold runM; rw [if_neg h]
theorem run_write_no {c : Cm} (h : inS s c.at_ c.n) (hk : c.kind = 3) (hl : ¬ (c.data.length : Int) = c.n * 8) : runM s c = (s, plain 2 5 9216) := by
  unfold runM; rw [if_pos h, if_neg (by omega), if_pos hk, if_neg hl]
theorem run_write_yes {c : Cm} (h : inS s c.at_ c.n) (hk : c.kind = 3) (hl : (c.data.length : Int) = c.n * 8) : runM s c = (writeS s c.at_.toNat c.data, plain 0 0 0) := by
  unfold runM; rw [if_pos h, if_neg (by omega), if_pos hk, if_pos hl]
theorem run_read_in {c : Cm} (h : inS s c.at_ c.n) (hk : c.kind = 2) : runM s c = (s, gave (partS s c.at_.toNat c.n.toNat)) := by
  unfold runM; rw [if_pos h, if_pos hk]
theorem run_unmap {c : Cm} (h : inS s c.at_ c.n) (hk : c.kind = 5) : runM s c = (unmapS s c.at_.toNat c.n.toNat, plain 0 0 0) := by
  unfold runM; rw [if_pos h, if_neg (by omega), if_neg (by omega), if_pos hk]
theorem run_sync {c : Cm} (h : inS s c.at_ c.n) (hk : c.kind = 4) : runM s c = (s, plain 0 0 0) := by
  unfold runM; rw [if_pos h, if_neg (by omega), if_neg (by omega), if_neg (by omega), if_neg (by omega)]
theorem run_cmp_no {c : Cm} (h : inS s c.at_ c.n) (hk : c.kind = 6) (hl : ¬ (c.data.length : Int) = 2 * (c.n * 8)) : runM s c = (s, plain 2 5 9216) := by
  unfold runM; rw [if_pos h, if_neg (by omega), if_neg (by omega), if_neg (by omega), if_pos hk, if_neg hl]
theorem run_cmp_yes {c : Cm} (h : inS s c.at_ c.n) (hk : c.kind = 6) (hl : (c.data.length : Int) = 2 * (c.n * 8)) : runM s c = cmpM s c.at_.toNat c.n.toNat c.data := by
  unfold runM; rw [if_pos h, if_neg (by omega), if_neg (by omega), if_neg (by omega), if_pos hk, if_pos hl]
end
/-- The bytes are as they have to be, when r was told. -/
theorem seq_wf {s : Sp} {c : Cm} (hw : wfS s) : wfS (runM s c).1 ∧ (runM s c).1.N = s.N := by
  unfold runM
  split
  · rename_i h
    obtain ⟨h1, h2, h3, h4, h5⟩ := h
    split
    · exact ⟨hw, rfl⟩
    · split
      · split
        · exact ⟨writeS_wf hw (by omega), rfl⟩
        · exact ⟨hw, rfl⟩
      · split
        · exact ⟨unmapS_wf hw (by omega), rfl⟩
        · split
          · split
            · unfold cmpM
              split
              · exact ⟨writeS_wf hw (by rw [List.length_drop]; omega), rfl⟩
              · exact ⟨hw, rfl⟩
            · exact ⟨hw, rfl⟩
          · exact ⟨hw, rfl⟩
  · exact ⟨hw, rfl⟩
/-- One byte more, written over. -/
theorem over_more {d xs : List UInt8} {o k : Nat} (hk : k < xs.length) (h : o + xs.length ≤ d.length) : (over d o (xs.take k)).set (o + k) (xs[k]'hk) = over d o (xs.take (k + 1)) := by
  have l0 : (xs.take k).length = k := by rw [List.length_take]; omega
  have l1 : (xs.take (k + 1)).length = k + 1 := by rw [List.length_take]; omega
  apply List.ext_getElem?
  intro j
  rw [List.getElem?_set, over_get (by omega), over_get (by omega), over_length (by omega), l0, l1]
  by_cases e : o + k = j
  · subst e
    rw [if_pos rfl, if_pos (by omega), if_pos (by omega), List.getElem?_take, if_pos (by omega), show o + k - o = k by omega, List.getElem?_eq_getElem hk]
  · rw [if_neg e]
    by_cases h1 : o ≤ j ∧ j < o + k
    · rw [if_pos h1, if_pos (by omega), List.getElem?_take, List.getElem?_take, if_pos (by omega), if_pos (by omega)]
    · rw [if_neg h1, if_neg (by omega)]
theorem over_zero {d : List UInt8} {o k n : Nat} (hk : k < n) (h : o + n ≤ d.length) : (over d o (List.replicate k 0)).set (o + k) 0 = over d o (List.replicate (k + 1) 0) := by
  have h1 := over_more (d := d) (xs := List.replicate n 0) (o := o) (k := k) (by rw [List.length_replicate]; exact hk) (by rw [List.length_replicate]; exact h)
  rw [List.take_replicate, List.take_replicate, Nat.min_eq_left (by omega), Nat.min_eq_left (by omega)] at h1
  rw [List.getElem_replicate] at h1
  exact h1
end Go.Sl.UnM
namespace Go.Sl
open Go
/-- A part of a row's cells. -/
theorem part_at {w : World} {b o p n : Nat} {vs vs' : List Value} (H : ∀ j u, vs[j]? = some u → w.cell? ⟨b, o + j, none⟩ = some u) (e : (vs.drop p).take n = vs') : ∀ j u, vs'[j]? = some u → w.cell? ⟨b, o + p + j, none⟩ = some u := by
  intro j u hj
  subst e
  rw [List.getElem?_take] at hj
  split at hj
  · rw [List.getElem?_drop] at hj
    rw [Nat.add_assoc]
    exact H _ _ hj
  · cases hj
theorem cell_at {w : World} {b o p : Nat} {vs : List Value} {v : Value} (H : ∀ j u, vs[j]? = some u → w.cell? ⟨b, o + j, none⟩ = some u) (q : Nat) (e : vs[p + q]? = some v) : w.cell? ⟨b, o + p + q, none⟩ = some v := by
  rw [Nat.add_assoc]; exact H _ _ e
end Go.Sl
namespace Go.Sl
open Go
theorem cells_cutq {L : List HProp} {a : Option Addr} {n c lo hi q : Nat} {bs : List UInt8} (C : Gives L (Cells 1 (.slice a n c) n (bytesV bs))) (e : hi = lo + q) (h2 : hi ≤ n) (hc : n ≤ c) :
    ∃ a' c', sliced a lo hi c 1 = .slice a' q c' ∧ Gives L (Cells 1 (.slice a' q c') q (bytesV ((bs.drop lo).take q))) := by
  subst e
  refine ⟨if c = lo then a else a.map (·.add (lo * 1)), c - lo, by unfold sliced; rw [Nat.add_sub_cancel_left], fun h H => ?_⟩
  have c1 := (C h H).cut (l := lo) (h := lo + q) (m := c) (by omega) h2 (by omega) (Nat.le_refl _)
  have e1 : ((bytesV bs).drop (lo * 1)).take ((lo + q - lo) * 1) = bytesV ((bs.drop lo).take q) := by
    rw [Nat.mul_one, Nat.mul_one, Nat.add_sub_cancel_left]
    simp [bytesV, List.map_drop, List.map_take]
  rw [e1] at c1
  unfold sliced at c1
  rw [Nat.add_sub_cancel_left] at c1
  exact c1
end Go.Sl
namespace Go.Sl.UnM
open Go Go.Sl Go.Sl.BitM Go.Sl.SpM Go.Sl.RsM Go.Sl.ByM
theorem run_cmp_eq {s : Sp} {p q : Nat} {c : Cm} (h : inS s c.at_ c.n) (hp : c.at_ = (p : Int)) (hq : c.n = (q : Int)) (hk : c.kind = 6) (hl : (c.data.length : Int) = 16 * (q : Int)) (he : partS s p q = c.data.take (8 * q)) : runM s c = (writeS s p (c.data.drop (8 * q)), plain 0 0 0) := by
  rw [run_cmp_yes h hk (by rw [hq]; omega), hp, hq]
  unfold cmpM
  rw [Int.toNat_natCast, Int.toNat_natCast, if_pos he]
theorem run_cmp_ne {s : Sp} {p q : Nat} {c : Cm} (h : inS s c.at_ c.n) (hp : c.at_ = (p : Int)) (hq : c.n = (q : Int)) (hk : c.kind = 6) (hl : (c.data.length : Int) = 16 * (q : Int)) (he : ¬ partS s p q = c.data.take (8 * q)) : runM s c = (s, ⟨2, 14, 7424, [], (diffAt (partS s p q) c.data : Nat)⟩) := by
  rw [run_cmp_yes h hk (by rw [hq]; omega), hp, hq]
  unfold cmpM
  rw [Int.toNat_natCast, Int.toNat_natCast, if_neg he]
theorem part_all {s : Sp} (hw : wfS s) (hN : s.N = 16) : partS s 0 16 = s.d := by
  unfold partS
  have h1 := hw.1
  rw [List.take_of_length_le (by rw [List.length_drop]; omega)]
  rfl
theorem seq_last {s : Sp} (hw : wfS s) (hN : s.N = 16) : doM (seqU s) 0 ⟨2, 0, 16, [], 0, 0, 0, false⟩ = (seqU s, gave s.d) := by
  have h1 := run_read (s := s) (p := 0) (q := 16) (data := []) (k := 0) (n := 0) (t := 0) (f := false) (by decide) (by omega)
  rw [part_all hw hN] at h1
  exact seq_do (i := 0) (by decide) (by show (2 : Int) ≤ 2; decide) (by show (2 : Int) ≤ 6; decide) h1
end Go.Sl.UnM
