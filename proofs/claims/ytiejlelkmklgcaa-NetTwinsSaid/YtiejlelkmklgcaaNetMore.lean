/-
  Plain laws of the network's model: copies of one packet.
-/
import Derived.Test.YtiejlelkmklgcaaNetLaws
namespace Go.Sl.NetM
open Go Go.Sl
set_option linter.unusedVariables false
/-- One packet, n times. -/
def mcp (b : List UInt8) (n : Nat) : St := ⟨2, List.replicate n ⟨0, 1, b⟩, 1⟩
variable {b : List UInt8} {n : Nat} {i : Int}
theorem mcp_at (h0 : 0 ≤ i) (h1 : i < n) : at? (mcp b n) i = some ⟨0, 1, b⟩ := by
  unfold at? mcp
  rw [if_pos h0, List.getElem?_replicate, if_pos (by omega)]
theorem mcp_none (h : ¬ (0 ≤ i ∧ i < n)) : at? (mcp b n) i = none := by
  unfold at? mcp
  split
  · rw [List.getElem?_replicate, if_neg (by omega)]
  · rfl
theorem mcp_isSome (h0 : 0 ≤ i) : (at? (mcp b n) i).isSome = decide (i < n) := by
  by_cases h : i < n
  · rw [mcp_at h0 h]; simp [h]
  · rw [mcp_none (by omega)]; simp [h]
theorem mcp_copyOk (hn : n < 4096) (h0 : 0 ≤ i) (h1 : i < n) : copyOk (mcp b n) i = true := by
  unfold copyOk
  rw [mcp_at h0 h1]
  simp [mcp, hn]
theorem mcp_copy (hn : n < 4096) (h0 : 0 ≤ i) (h1 : i < n) : copy (mcp b n) i = mcp b (n + 1) := by
  unfold copy
  rw [mcp_at h0 h1]
  simp [mcp, hn, List.replicate_succ']
theorem mcp_out (h0 : 0 ≤ i) (h1 : i < n) : out (mcp b n) i = mcp b (n - 1) := by
  unfold out
  rw [mcp_at h0 h1]
  simp only [Option.isSome_some, if_true, mcp]
  rw [List.eraseIdx_replicate, if_pos (by omega)]
theorem mcp_outNone (h : ¬ (0 ≤ i ∧ i < n)) : out (mcp b n) i = mcp b n := by
  unfold out
  rw [mcp_none h]
  rfl
theorem mcp_drop0 : out (mcp b n) 0 = mcp b (n - 1) := by
  by_cases h : 0 < n
  · exact mcp_out (by omega) (by omega)
  · rw [mcp_outNone (by omega)]
    congr 1; omega
theorem mcp_send (hb : b.length ≤ 8192) : send ⟨2, [], 0⟩ 0 1 b = mcp b 1 := by
  have e : sendE ⟨2, [], 0⟩ 0 1 b.length = 0 := by
    unfold sendE
    rw [if_neg (by simp), if_neg (by omega), if_neg (by simp)]
  unfold send
  rw [if_pos e]
  rfl
theorem tdiv2 (k : Nat) : Int.tdiv (k : Int) 2 = ((k / 2 : Nat) : Int) := by
  rw [Int.tdiv_eq_ediv_of_nonneg (by omega)]; omega
end Go.Sl.NetM
