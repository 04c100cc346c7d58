/-
  Two commands that did not overlap. No program is named here.
-/
import Derived.Test.YtdpakoefdpmebaaTraceM
import Derived.KernelRfl
namespace Go.Sl.TrM
open Go Go.Sl Go.Sl.BitM Go.Sl.SpM Go.Sl.RsM Go.Sl.ByM Go.Sl.UnM
set_option linter.unusedVariables false
set_option linter.unusedSimpArgs false
set_option linter.unusedSectionVars false
abbrev w0 : CmX := ⟨1, 0, 0, none, 0, [], 0, 0, 0, false⟩
abbrev inA (a : Int) : InX := ⟨0, 1, w0, a⟩
abbrev inB (a : Int) : InX := ⟨1, 1, w0, a⟩
abbrev coA (a : Int) : CoX := ⟨0, 1, a⟩
abbrev coB (a : Int) : CoX := ⟨1, 1, a⟩
abbrev ouA (a : Int) : OuX := ⟨0, 1, 0, 0, 0, none, 0, [], 0, a⟩
abbrev ouB (a : Int) : OuX := ⟨1, 1, 0, 0, 0, none, 0, [], 0, a⟩
section
variable {a b c d x y : Int} (h1 : a ≤ x) (h2 : x ≤ b) (h3 : b < c) (h4 : c ≤ y) (h5 : y ≤ d)
include h1 h2 h3 h4 h5
theorem two_fine : (checkM 4 [inA a, inB c] [coA x, coB y] [ouA b, ouB d]).2 = 0 := by
  have r1 : okC [inA a, inB c] [] (coA x) = 0 := okC_good (x := inA a) rfl (by
    rintro (h | h | h)
    · cases h
    · exact absurd h.1 (by decide)
    · exact absurd (show x < a from h) (by omega))
  have r2 : okC [inA a, inB c] ([] ++ [coA x]) (coB y) = 0 := okC_good (x := inB c) rfl (by
    rintro (h | h | h)
    · exact absurd (List.mem_singleton.1 h) (by unfold CoX.nm; simp)
    · exact absurd (show y < x from h.2) (by omega)
    · exact absurd (show y < c from h) (by omega))
  have e1 : rowM [inA a, inB c] [coA x, coB y] [] = (0, 0) := by rw [rowM, if_pos r1, rowM, if_pos r2, rowM]
  have s1 : okO [coA x, coB y] [] (ouA b) = 0 := okO_good (y := coA x) rfl (by
    rintro (h | h)
    · cases h
    · exact absurd (show b < x from h) (by omega))
  have s2 : okO [coA x, coB y] ([] ++ [ouA b]) (ouB d) = 0 := okO_good (y := coB y) rfl (by
    rintro (h | h)
    · exact absurd (List.mem_singleton.1 h) (by unfold OuX.nm; simp)
    · exact absurd (show d < y from h) (by omega))
  have e2 : outM [coA x, coB y] [ouA b, ouB d] [] = (0, 0) := by rw [outM, if_pos s1, outM, if_pos s2, outM]
  have e3 : orderM [inA a, inB c] [coA x, coB y] [ouA b, ouB d] = (0, 0) := by unfold orderM; rw [e1, if_pos rfl, e2]
  unfold checkM
  rw [e3, if_pos rfl]
  have e4 : sameM [coA x, coB y] (replL [inA a, inB c] [coA x, coB y] (newU 4)) [ouA b, ouB d] 0 = (0, 0) := by kernel_rfl
  rw [e4]
theorem two_turned : (checkM 4 [inA a, inB c] [coB y, coA x] [ouA b, ouB d]).2 = 2 := by
  have r1 : okC [inA a, inB c] [] (coB y) = 0 := okC_good (x := inB c) rfl (by
    rintro (h | h | h)
    · cases h
    · exact absurd h.1 (by decide)
    · exact absurd (show y < c from h) (by omega))
  have r2 : okC [inA a, inB c] ([] ++ [coB y]) (coA x) = 2 := okC_bad (x := inA a) rfl (.inr (.inl ⟨Nat.zero_lt_one, by show x < y; omega⟩))
  have e1 : rowM [inA a, inB c] [coB y, coA x] [] = (1, 2) := by rw [rowM, if_pos r1, rowM, if_neg (by rw [r2]; decide), r2]; rfl
  have e3 : orderM [inA a, inB c] [coB y, coA x] [ouA b, ouB d] = (1, 2) := by unfold orderM; rw [e1, if_neg (by decide)]
  unfold checkM
  rw [e3, if_neg (by decide)]
theorem two_late : (checkM 4 [inA a, inB c] [coB y, coA y] [ouA b, ouB d]).2 = 2 := by
  have r1 : okC [inA a, inB c] [] (coB y) = 0 := okC_good (x := inB c) rfl (by
    rintro (h | h | h)
    · cases h
    · exact absurd h.1 (by decide)
    · exact absurd (show y < c from h) (by omega))
  have r2 : okC [inA a, inB c] ([] ++ [coB y]) (coA y) = 0 := okC_good (x := inA a) rfl (by
    rintro (h | h | h)
    · exact absurd (List.mem_singleton.1 h) (by unfold CoX.nm; simp)
    · exact absurd (show y < y from h.2) (by omega)
    · exact absurd (show y < a from h) (by omega))
  have e1 : rowM [inA a, inB c] [coB y, coA y] [] = (0, 0) := by rw [rowM, if_pos r1, rowM, if_pos r2, rowM]
  have s1 : okO [coB y, coA y] [] (ouA b) = 2 := okO_bad (y := coA y) rfl (.inr (by show b < y; omega))
  have e2 : outM [coB y, coA y] [ouA b, ouB d] [] = (0, 2) := by rw [outM, if_neg (by rw [s1]; decide), s1]; rfl
  have e3 : orderM [inA a, inB c] [coB y, coA y] [ouA b, ouB d] = (0, 2) := by unfold orderM; rw [e1, if_pos rfl, e2]
  unfold checkM
  rw [e3, if_neg (by decide)]
end
end Go.Sl.TrM
