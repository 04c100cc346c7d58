/-
  The laws of disks, plain. No program is named here.
-/
import Derived.Test.YtlahgihjjabgmaaDiskCrash
import Derived.Test.YtlahgihjjabgmaaSlRows
namespace Go.Sl.DkM
open Go Go.Sl
set_option linter.unusedVariables false
/-- What DiskLasts has: two sectors. -/
def lasD (a : Sec) (b : List UInt8) (off : Bool) (c : Int) : Dk := ⟨2, [(0, a), (1, ⟨b, []⟩)], off, false, 0, [], c⟩
theorem las1 {first : List UInt8} (h : first.length ≤ 512) : (writeD (newD 2) 0 first).2 = ⟨2, [(0, ⟨[], [first]⟩)], false, false, 0, [], 1⟩ := by
  rw [writeD_ok rfl ⟨by decide, by decide, h⟩ rfl]; rfl
theorem las2 {first : List UInt8} (h : first.length ≤ 512) : (writeD ⟨2, [(0, ⟨[], [first]⟩)], false, false, 0, [], 1⟩ 1 first).2 = ⟨2, [(0, ⟨[], [first]⟩), (1, ⟨[], [first]⟩)], false, false, 0, [], 2⟩ := by
  rw [writeD_ok rfl ⟨by decide, by show (1 : Int) < 2; decide, h⟩ rfl]; rfl
theorem las3 {first : List UInt8} : (flushD ⟨2, [(0, ⟨[], [first]⟩), (1, ⟨[], [first]⟩)], false, false, 0, [], 2⟩).2 = lasD ⟨first, []⟩ first false 3 := by
  rw [flushD_ok rfl rfl]; rfl
theorem lasW {first k x : List UInt8} {ws : List (List UInt8)} {c : Int} (h : x.length ≤ 512) : (writeD (lasD ⟨k, ws⟩ first false c) 0 x).2 = lasD ⟨k, ws ++ [x]⟩ first false (c + 1) := by
  rw [writeD_ok rfl ⟨Int.le_refl 0, by show (0 : Int) < 2; decide, h⟩ rfl]; rfl
theorem lasC {first k : List UInt8} {ws : List (List UInt8)} {c : Int} {picks : List Int} : ∃ k', (k' = k ∨ k' ∈ ws) ∧ crashD (lasD ⟨k, ws⟩ first false c) picks = lasD ⟨k', []⟩ first true c := by
  refine ⟨(crash1 (lasD ⟨k, ws⟩ first false c).m picks 0 ⟨k, ws⟩).kept, ?_, ?_⟩
  · unfold crash1 DkM.settle
    generalize (if ws = [] then 0 else pickP picks (rank (lasD ⟨k, ws⟩ first false c).m 0) ws.length) = p
    show (if p = 0 then k else (ws[p - 1]?).getD k) = k ∨ _
    by_cases hp : p = 0
    · rw [if_pos hp]; exact .inl rfl
    · rw [if_neg hp]
      cases hw : ws[p - 1]? with
      | none => exact .inl rfl
      | some x => exact .inr (List.mem_of_getElem? hw)
  · rw [crashD_on rfl rfl]; rfl
theorem lasR0 {first k : List UInt8} {c : Int} : readD (lasD ⟨k, []⟩ first false c) 0 = full k := rfl
theorem lasR1 {first k : List UInt8} {c : Int} : readD (lasD ⟨k, []⟩ first false c) 1 = full first := rfl
end Go.Sl.DkM
