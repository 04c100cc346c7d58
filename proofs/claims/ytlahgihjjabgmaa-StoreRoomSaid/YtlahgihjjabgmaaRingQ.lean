/-
  A journal's sector, number by number. No program is named here.
-/
import Derived.Test.YtlahgihjjabgmaaRingP
namespace Go.Sl.RgM
open Go Go.Sl Go.Sl.ByM Go.Sl.DkM Go.Sl.TwM
set_option linter.unusedVariables false
set_option linter.unusedSimpArgs false
def hdR (number life : Nat) : List UInt8 := markR ++ be number 8 ++ be life 4
def outR (number life : Nat) (xs : List Nat) : List UInt8 := hdR number life ++ xs.flatMap (fun x => be x 2)
theorem hdR_length (number life : Nat) : (hdR number life).length = 16 := by unfold hdR; simp only [List.length_append, be_length]; rfl
theorem outR_length (number life : Nat) : ∀ xs : List Nat, (outR number life xs).length = 16 + 2 * xs.length
  | [] => by unfold outR; rw [List.length_append, hdR_length]; rfl
  | x :: xs => by
    have h := outR_length number life xs
    unfold outR at h ⊢
    rw [List.length_append] at h ⊢
    rw [List.flatMap_cons, List.length_append, be_length, List.length_cons]
    omega
theorem outR_app (number life : Nat) (xs : List Nat) (x : Nat) : outR number life (xs ++ [x]) = outR number life xs ++ be x 2 := by
  unfold outR
  rw [List.flatMap_append, ← List.append_assoc]
  simp
theorem outR_body (number life part parts : Nat) (b : List UInt8) : outR number life [part, parts, b.length] ++ b = bodyR number life part parts b := by
  unfold outR hdR bodyR
  simp [List.append_assoc]
theorem outR_step {number life i x : Nat} {xs : List Nat} (h : xs[i]? = some x) : outR number life (xs.take (i + 1)) = outR number life (xs.take i) ++ be x 2 := by
  rw [List.take_add_one, h]
  exact outR_app ..
theorem nats_row {xs : List Nat} {i x : Nat} (h : xs[i]? = some x) : ((xs.map fun (q : Nat) => Value.int .i64 (q : Int)).drop (i * 1)).take 1 = [.int .i64 (x : Int)] := by
  have hlt := (List.getElem?_eq_some_iff.1 h).1
  rw [Nat.mul_one, List.drop_eq_getElem_cons (by simpa using hlt)]
  simp [(List.getElem?_eq_some_iff.1 h).2]
/-- What a pack's answer is. -/
theorem packR_ok {number life part parts : Nat} {b : List UInt8} (h1 : part < parts) (h2 : parts ≤ 65535) (h3 : b.length ≤ 480) : packR number life part parts b = (secR number life part parts b, 0) := by
  unfold packR; rw [if_neg (by omega), if_neg (by omega)]
theorem packR_no {number life part parts : Nat} {b : List UInt8} (h1 : ¬ part < parts) : packR number life part parts b = ([], 1) := by
  unfold packR; rw [if_pos (by omega)]
theorem packR_long {number life part parts : Nat} {b : List UInt8} (h1 : part < parts) (h2 : parts ≤ 65535) (h3 : ¬ b.length ≤ 480) : packR number life part parts b = ([], 5) := by
  unfold packR; rw [if_neg (by omega), if_pos (by omega)]
end Go.Sl.RgM
