/-
  No cell of these rows narrows 'for every input' (looked for: loops, veiled, ifaces, maps, wideKeys, modest, calm, conditions, laid).
  DERIVED. THE GIVEN ROWS OF THIS SEAT. 4 by the template 'for every input the law returns true; each argument reads behind the call as it read before'; 0 by the template 'total and deterministic' (their statements: YtbfdkalcpacaaaaTotals.lean).
  GIVEN WITH THE SEED: the statements are not yours to turn. If you find one false, say at which input.
  Laid BY PROGRAM, IN A SANDBOX (cutbox-rows.mjs): the forced cells as the released guide's own fill.sh prints them over the translation 6570d114b7d8ecb2… (all of the seat's roots in one cut). By AI agents, Wed Nov 11 2026. No macro, syntax, notation, axiom, sorry.
-/
import Derived.Test.YtbfdkalcpacaaaaChecked
import GoSem.Claim
import GoSem.ClaimJoined
import GoSem.ClaimMapViews
import Derived.JoinedTies
import Derived.KernelRfl
namespace Go.Proofs.Ytbfdkalcpacaaaa
/- THE CELL 'sum', in the pinned program and in every row, IS THE sha256 OF THE DUMP (.gsa) THAT YtbfdkalcpacaaaaProg.lean LOADS. Nothing in Lean hashes anything: it is a label: what it is worth is what the hold of that sum in a sandbox is worth. -/
noncomputable def Try.pinned : Pinned := { name := "ytbfdkalcpacaaaa", sum := "6570d114b7d8ecb2356f3b53871deb352ce51e30bf4d8dd11e3e203ad784453a", checked := Try.checked }
namespace Rows
def none {H : Type} : Left H := { results := [], args := [] }

/-- 'gemellaw15.ResvLeaves': WHATEVER THE INPUT: true; the input reads as it did. -/
def resvLeavesSpec : ChangeSpec := { name := "resvLeaves", fn := fun _ => fun
  | [d1, d2, d3] => { results := [.lit (.bool true)], args := [d1, d2, d3] }
  | _ => none }
def resvLeavesRow : OpenClaim := { program := "ytbfdkalcpacaaaa", sum := "6570d114b7d8ecb2356f3b53871deb352ce51e30bf4d8dd11e3e203ad784453a", func := "gemel/gemellaw15.ResvLeaves", spec := "resvLeaves", unfollowed := true, recurses := true, apart := false }
def ResvLeavesSaid : Prop := resvLeavesRow.holds Try.pinned (OpenSpec.ofChange resvLeavesSpec)

/-- ITS FALSE NEIGHBOUR: 'it returns false'. Refute it at one input. -/
def resvLeavesWrong : ChangeSpec := { name := "resvLeaves", fn := fun _ => fun
  | [d1, d2, d3] => { results := [.lit (.bool false)], args := [d1, d2, d3] }
  | _ => none }
def ResvLeavesWrongFalsely : Prop := resvLeavesRow.holds Try.pinned (OpenSpec.ofChange resvLeavesWrong)

/-- 'gemellaw15.ResvClears': WHATEVER THE INPUT: true; the input reads as it did. -/
def resvClearsSpec : ChangeSpec := { name := "resvClears", fn := fun _ => fun
  | [d1, d2, d3] => { results := [.lit (.bool true)], args := [d1, d2, d3] }
  | _ => none }
def resvClearsRow : OpenClaim := { program := "ytbfdkalcpacaaaa", sum := "6570d114b7d8ecb2356f3b53871deb352ce51e30bf4d8dd11e3e203ad784453a", func := "gemel/gemellaw15.ResvClears", spec := "resvClears", unfollowed := true, recurses := true, apart := false }
def ResvClearsSaid : Prop := resvClearsRow.holds Try.pinned (OpenSpec.ofChange resvClearsSpec)

/-- ITS FALSE NEIGHBOUR: 'it returns false'. Refute it at one input. -/
def resvClearsWrong : ChangeSpec := { name := "resvClears", fn := fun _ => fun
  | [d1, d2, d3] => { results := [.lit (.bool false)], args := [d1, d2, d3] }
  | _ => none }
def ResvClearsWrongFalsely : Prop := resvClearsRow.holds Try.pinned (OpenSpec.ofChange resvClearsWrong)

/-- 'gemellaw15.ResvOne': WHATEVER THE INPUT: true; the input reads as it did. -/
def resvOneSpec : ChangeSpec := { name := "resvOne", fn := fun _ => fun
  | [d] => { results := [.lit (.bool true)], args := [d] }
  | _ => none }
def resvOneRow : OpenClaim := { program := "ytbfdkalcpacaaaa", sum := "6570d114b7d8ecb2356f3b53871deb352ce51e30bf4d8dd11e3e203ad784453a", func := "gemel/gemellaw15.ResvOne", spec := "resvOne", unfollowed := true, recurses := true, apart := false }
def ResvOneSaid : Prop := resvOneRow.holds Try.pinned (OpenSpec.ofChange resvOneSpec)

/-- ITS FALSE NEIGHBOUR: 'it returns false'. Refute it at one input. -/
def resvOneWrong : ChangeSpec := { name := "resvOne", fn := fun _ => fun
  | [d] => { results := [.lit (.bool false)], args := [d] }
  | _ => none }
def ResvOneWrongFalsely : Prop := resvOneRow.holds Try.pinned (OpenSpec.ofChange resvOneWrong)

/-- 'gemellaw16.TaskFull': WHATEVER THE INPUT: true; the input reads as it did. -/
def taskFullSpec : ChangeSpec := { name := "taskFull", fn := fun _ => fun
  | [d1, d2] => { results := [.lit (.bool true)], args := [d1, d2] }
  | _ => none }
def taskFullRow : OpenClaim := { program := "ytbfdkalcpacaaaa", sum := "6570d114b7d8ecb2356f3b53871deb352ce51e30bf4d8dd11e3e203ad784453a", func := "gemel/gemellaw16.TaskFull", spec := "taskFull", inPlace := ["slices.overlaps[gemel/task.task]"], unfollowed := true, recurses := true, apart := false }
def TaskFullSaid : Prop := taskFullRow.holds Try.pinned (OpenSpec.ofChange taskFullSpec)

/-- ITS FALSE NEIGHBOUR: 'it returns false'. Refute it at one input. -/
def taskFullWrong : ChangeSpec := { name := "taskFull", fn := fun _ => fun
  | [d1, d2] => { results := [.lit (.bool false)], args := [d1, d2] }
  | _ => none }
def TaskFullWrongFalsely : Prop := taskFullRow.holds Try.pinned (OpenSpec.ofChange taskFullWrong)

/- THE SECOND FORM. 'bulk': how many values and letters a reading holds, each counted each time it is reached (what is shared counts as often as it is met; a slice's spare places count too). A statement '..UptoSaid' is the law's where the arguments, and the package variables that the reading takes, are together of bulk at most 1048576: NARROWER than '..Said'. Prove '..Said' where nothing that the law and all that it calls make is longer than what came in: it says more and counts as full. Else prove '..UptoSaid'. A law counts once. -/
mutual
def uptoBulk {H : Type} : DataW H → Nat
  | .lit (.string bytes) => bytes.length + 1
  | .lit _ => 1
  | .nil => 1
  | .ptr d => uptoBulk d + 1
  | .slice elems spare => uptoBulkAll elems + uptoBulkAll spare + 1
  | .agg parts => uptoBulkAll parts + 1
  | .iface _ d => uptoBulk d + 1
  | .map entries => uptoBulkEntries entries + 1
  | .held _ => 1
def uptoBulkAll {H : Type} : List (DataW H) → Nat
  | [] => 0
  | d :: r => uptoBulk d + uptoBulkAll r
def uptoBulkEntries {H : Type} : List (Lit × DataW H) → Nat
  | [] => 0
  | x :: r => uptoBulkEntry x + uptoBulkEntries r
def uptoBulkEntry {H : Type} : Lit × DataW H → Nat
  | (.string bytes, d) => bytes.length + uptoBulk d + 1
  | (_, d) => uptoBulk d + 1
 end
def uptoSmall : (H : Type) → List (DataW H) → Bool := fun _ ds => decide (uptoBulkAll ds ≤ 1048576)
def OpenSpec.upto (s : _root_.Go.ChangeSpec) : _root_.Go.OpenSpec := { _root_.Go.OpenSpec.ofChange s with cond := some uptoSmall }

/-- 'gemellaw15.ResvLeaves', WHERE WHAT IT READS IS OF BULK AT MOST 1048576: true; the input reads as it did. -/
def resvLeavesUptoRow : OpenClaim := { program := "ytbfdkalcpacaaaa", sum := "6570d114b7d8ecb2356f3b53871deb352ce51e30bf4d8dd11e3e203ad784453a", func := "gemel/gemellaw15.ResvLeaves", spec := "resvLeaves", unfollowed := true, recurses := true, apart := false, narrowed := true }
def ResvLeavesUptoSaid : Prop := resvLeavesUptoRow.holds Try.pinned (OpenSpec.upto resvLeavesSpec)

/-- 'gemellaw15.ResvClears', WHERE WHAT IT READS IS OF BULK AT MOST 1048576: true; the input reads as it did. -/
def resvClearsUptoRow : OpenClaim := { program := "ytbfdkalcpacaaaa", sum := "6570d114b7d8ecb2356f3b53871deb352ce51e30bf4d8dd11e3e203ad784453a", func := "gemel/gemellaw15.ResvClears", spec := "resvClears", unfollowed := true, recurses := true, apart := false, narrowed := true }
def ResvClearsUptoSaid : Prop := resvClearsUptoRow.holds Try.pinned (OpenSpec.upto resvClearsSpec)

/-- 'gemellaw15.ResvOne', WHERE WHAT IT READS IS OF BULK AT MOST 1048576: true; the input reads as it did. -/
def resvOneUptoRow : OpenClaim := { program := "ytbfdkalcpacaaaa", sum := "6570d114b7d8ecb2356f3b53871deb352ce51e30bf4d8dd11e3e203ad784453a", func := "gemel/gemellaw15.ResvOne", spec := "resvOne", unfollowed := true, recurses := true, apart := false, narrowed := true }
def ResvOneUptoSaid : Prop := resvOneUptoRow.holds Try.pinned (OpenSpec.upto resvOneSpec)

/-- 'gemellaw16.TaskFull', WHERE WHAT IT READS IS OF BULK AT MOST 1048576: true; the input reads as it did. -/
def taskFullUptoRow : OpenClaim := { program := "ytbfdkalcpacaaaa", sum := "6570d114b7d8ecb2356f3b53871deb352ce51e30bf4d8dd11e3e203ad784453a", func := "gemel/gemellaw16.TaskFull", spec := "taskFull", inPlace := ["slices.overlaps[gemel/task.task]"], unfollowed := true, recurses := true, apart := false, narrowed := true }
def TaskFullUptoSaid : Prop := taskFullUptoRow.holds Try.pinned (OpenSpec.upto taskFullSpec)

end Rows
end Go.Proofs.Ytbfdkalcpacaaaa
