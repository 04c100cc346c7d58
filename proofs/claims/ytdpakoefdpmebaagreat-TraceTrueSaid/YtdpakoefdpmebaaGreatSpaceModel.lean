/-
  The blocks as plain data, and as they lie. No program is named here.
-/
import Derived.Test.YtdpakoefdpmebaaGreatSlB
import Derived.Test.YtdpakoefdpmebaaGreatBitRows
namespace Go.Sl.SpM
open Go Go.Sl Go.Sl.BitM
set_option linter.unusedVariables false
/-- Some of a list, written over. -/
def over (l : List UInt8) (o : Nat) (bs : List UInt8) : List UInt8 := l.take o ++ bs ++ l.drop (o + bs.length)
theorem over_length {l : List UInt8} {o : Nat} {bs : List UInt8} (h : o + bs.length ≤ l.length) : (over l o bs).length = l.length := by
  simp only [over, List.length_append, List.length_take, List.length_drop]; omega
theorem bytesV_over (l : List UInt8) (o : Nat) (bs : List UInt8) : splice (bytesV l) o (bytesV bs) = bytesV (over l o bs) := by
  simp [splice, over, bytesV, List.map_take, List.map_drop]
theorem over_get {l : List UInt8} {o : Nat} {bs : List UInt8} (h : o + bs.length ≤ l.length) (j : Nat) : (over l o bs)[j]? = if o ≤ j ∧ j < o + bs.length then bs[j - o]? else l[j]? := by
  unfold over
  simp only [List.getElem?_append, List.getElem?_take, List.getElem?_drop, List.length_append, List.length_take]
  by_cases h1 : j < o
  · rw [if_pos (by omega), if_pos (by omega), if_pos h1, if_neg (by omega)]
  · by_cases h2 : j < o + bs.length
    · rw [if_pos (by omega), if_neg (by omega), if_pos (by omega)]
      congr 1; omega
    · rw [if_neg (by omega), if_neg (by omega)]
      congr 1; omega
theorem over_nil (l : List UInt8) (o : Nat) : over l o [] = l := by simp [over]
/-- The blocks: how many, their bytes, which are mapped. -/
structure Sp where
  N : Nat
  d : List UInt8
  m : List UInt8
def newS (n : Nat) : Sp := ⟨n, List.replicate (8 * n) 0, List.replicate ((n + 7) / 8) 0⟩
def inS (s : Sp) (at_ n : Int) : Prop := 0 ≤ n ∧ n ≤ 32 ∧ 0 ≤ at_ ∧ at_ ≤ s.N ∧ n ≤ s.N - at_
instance (s : Sp) (at_ n : Int) : Decidable (inS s at_ n) := by unfold inS; exact inferInstance
def writeS (s : Sp) (at_ : Nat) (bs : List UInt8) : Sp := ⟨s.N, over s.d (8 * at_) bs, turned s.m at_ ((bs.length / 8 : Nat) : Int) true⟩
def unmapS (s : Sp) (at_ n : Nat) : Sp := ⟨s.N, over s.d (8 * at_) (List.replicate (8 * n) 0), turned s.m at_ n false⟩
def partS (s : Sp) (at_ n : Nat) : List UInt8 := (s.d.drop (8 * at_)).take (8 * n)
def wfS (s : Sp) : Prop := s.d.length = 8 * s.N ∧ 1 ≤ s.N ∧ s.N ≤ 1024 ∧ s.m.length = (s.N + 7) / 8
def SpP (T b : Nat) (s : Sp) : HProp := Ex fun (x : Nat × Nat × Nat × Option Addr × Nat) => Pack (wfS s)
  [blk b [.int .i64 (s.N : Int), .slice (some ⟨x.1, x.2.1, none⟩) (8 * s.N) x.2.2.1, .slice x.2.2.2.1 s.m.length x.2.2.2.2] T,
   Own 1 (.slice (some ⟨x.1, x.2.1, none⟩) (8 * s.N) x.2.2.1) (8 * s.N) (bytesV s.d), Own 1 (.slice x.2.2.2.1 s.m.length x.2.2.2.2) s.m.length (bytesV s.m)]
section
variable {W0 w : World} {L : List HProp} {T b : Nat} {s : Sp}
theorem openS (H : On W0 (SpP T b s :: L) w) : ∃ gd od cd am cm, wfS s ∧ On W0 (blk b [.int .i64 (s.N : Int), .slice (some ⟨gd, od, none⟩) (8 * s.N) cd, .slice am s.m.length cm] T :: Own 1 (.slice (some ⟨gd, od, none⟩) (8 * s.N) cd) (8 * s.N) (bytesV s.d) ::
    Own 1 (.slice am s.m.length cm) s.m.length (bytesV s.m) :: L) w := by
  obtain ⟨⟨gd, od, cd, am, cm⟩, H⟩ := H.ex
  obtain ⟨h1, H⟩ := H.unpack
  exact ⟨gd, od, cd, am, cm, h1, H⟩
theorem closeS {gd od cd : Nat} {am : Option Addr} {cm : Nat} (h1 : wfS s) (H : On W0 (blk b [.int .i64 (s.N : Int), .slice (some ⟨gd, od, none⟩) (8 * s.N) cd, .slice am s.m.length cm] T :: Own 1 (.slice (some ⟨gd, od, none⟩) (8 * s.N) cd) (8 * s.N) (bytesV s.d) ::
    Own 1 (.slice am s.m.length cm) s.m.length (bytesV s.m) :: L) w) : On W0 (SpP T b s :: L) w := On.exI (gd, od, cd, am, cm) (On.pack h1 H)
end
theorem newS_wf {n : Nat} (h1 : 1 ≤ n) (h2 : n ≤ 1024) : wfS (newS n) := ⟨by simp [newS], h1, h2, by simp [newS]⟩
theorem writeS_wf {s : Sp} {at_ : Nat} {bs : List UInt8} (h : wfS s) (hb : 8 * at_ + bs.length ≤ 8 * s.N) : wfS (writeS s at_ bs) := by
  obtain ⟨h1, h2, h3, h4⟩ := h
  exact ⟨by show (over _ _ _).length = _; rw [over_length (by omega)]; exact h1, h2, h3, by show (turned _ _ _ _).length = _; rw [turned_length]; exact h4⟩
theorem unmapS_wf {s : Sp} {at_ n : Nat} (h : wfS s) (hb : at_ + n ≤ s.N) : wfS (unmapS s at_ n) := by
  obtain ⟨h1, h2, h3, h4⟩ := h
  exact ⟨by show (over _ _ _).length = _; rw [over_length (by simp; omega)]; exact h1, h2, h3, by show (turned _ _ _ _).length = _; rw [turned_length]; exact h4⟩
end Go.Sl.SpM
