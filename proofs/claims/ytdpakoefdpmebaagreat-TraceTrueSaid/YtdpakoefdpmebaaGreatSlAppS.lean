/-
  append(s, text...): the row grows. No program is named here.
-/
import Derived.Test.YtdpakoefdpmebaaGreatSlA
import Derived.Lib.AppendStr
namespace Go.Sl
open Go Go.Lib
set_option linter.unusedVariables false
section
variable {P : Program} {W0 w : World} {L L' : List HProp} {ρ : Operand → Value} {d : Option Nat} {ty : TypeId} {pos : String} {af : Array Edge} {g : Option (Nat × Bool)}
theorem eff_appStr {t u e n c bytes : Nat} {a : Option Addr} {z : Value} {xs : List Value} {s : ByteArray} {i : TypeInfo} {sx sy : Operand} (H : On W0 L w) (hs : ρ sx = .slice a n c) (hy : ρ sy = .string s) [p : OwnIn L (.slice a n c) 1 n xs L']
    (hU : P.underlying t = some (.slice e)) (hU2 : P.underlying u = some .string) (hI : P.info? e = some i) (hsz : i.size = 1) (hby : i.bytes = bytes) (hz : i.zero = some z) (hzs : z.cells.size = 1)
    (hcap : c < n + s.size) (h63 : n + s.size ≤ maxLen) (hb : (n + s.size) * bytes ≤ 140737488355328) :
    Eff P ρ ⟨d, .call { callee := .builtin .append, args := #[sx, sy], argTypes := #[t, u] }, ty, pos, af, g⟩ w (Grown 1 (n + s.size) (xs ++ strCells s) W0 L') := by
  subst hby
  have H' := H.imp p.out
  have hO := H'.get 0 rfl (Own_mono _ _ _ _)
  have Cx := hO.cells
  have hxlen : xs.length = n * 1 := hO.1
  have hylen : (strCells s).length = s.size * 1 := by rw [strCells_length, Nat.mul_one]
  have hne : ¬ (n + s.size ≤ c) := by omega
  have hm63 : ((n + s.size : Nat) : Int) ≤ 9223372036854775807 := by simp only [maxLen] at h63; omega
  have h63' : ¬ (9223372036854775807 < ((n : Int) + (s.size : Int))) := by omega
  have h48' : ¬ (281474976710656 < Builtin.nextslicecap (n + s.size) c * i.bytes) := by
    have := growslice_fits (old := c) (by omega) hb; omega
  have Cxd : Cells i.size (.slice a n c) n xs (hp w.drew) := by rw [hsz]; exact Cx
  have hfx := run_firstCells_C (P := P) Cxd
  have hfd := run_firstCells_string (P := P) w.drew i.size s
  have hge := grownCap_ge w (n + s.size) c e
  have hcm : grownCap w (n + s.size) c e ≤ maxLen := grownCap_le_maxLen w (n + s.size) c e h63
  refine .inl ⟨.slice (some ⟨w.heap.size, 0, none⟩) (n + s.size) (grownCap w (n + s.size) c e), w.drew.alloc (.cells (xs.toArray ++ (strCells s).toArray ++ Builtin.zeroCells z.cells (grownCap w (n + s.size) c e - (n + s.size))) e), ?_, ?_⟩
  · have hr : (Builtin.append_ #[t, u] ty #[.slice a n c, .string s]).run P w = .ok (.slice (some ⟨w.heap.size, 0, none⟩) (n + s.size) (grownCap w (n + s.size) c e)) (w.drew.alloc (.cells (xs.toArray ++ (strCells s).toArray ++ Builtin.zeroCells z.cells (grownCap w (n + s.size) c e - (n + s.size))) e)) := by
      simp [Builtin.append_, run_underlying hU, run_underlying hU2, sizeOf, typeInfo, zeroValue, hI, hz, Builtin.lenOf, hne, h63', h48', Question.forced, hfd, hfx, newRow, grownCap]
      congr 2
      apply Array.ext'
      simp [List.append_assoc]
    simp [execOp, resolve, invoke, builtin, hs, hy, hr]
  · refine ⟨_, _, rfl, ?_⟩
    have hA := (H'.tail.drew).alloc (.cells (xs.toArray ++ (strCells s).toArray ++ Builtin.zeroCells z.cells (grownCap w (n + s.size) c e - (n + s.size))) e)
    refine hA.head fun h hh => ⟨by simp [hxlen, hylen, Nat.add_mul], .inr ⟨w.heap.size, 0, grownCap w (n + s.size) c e, xs ++ strCells s ++ (Builtin.zeroCells z.cells (grownCap w (n + s.size) c e - (n + s.size))).toList, e, (0, 0), rfl, hge, hcm, ?_, ?_, ?_, ?_⟩⟩
    · simp only [List.length_append, hxlen, hylen, Array.length_toList, size_zeroCells, hzs, ← Nat.add_mul]
      rw [Nat.zero_add]
      apply Nat.le_of_eq; congr 1; omega
    · rw [List.drop_zero]
      have : (n + s.size) * 1 = (xs ++ strCells s).length := by simp [hxlen, hylen, Nat.add_mul]
      rw [this]
      exact List.take_left
    · exact .inl rfl
    · have hh' : h w.drew.heap.size = _ := hh
      rw [show w.drew.heap.size = w.heap.size from rfl] at hh'
      rw [hh']
      simp [obj]
end
end Go.Sl
