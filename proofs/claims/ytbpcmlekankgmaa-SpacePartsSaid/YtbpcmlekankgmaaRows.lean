/-
  No cell of these rows narrows 'for every input' (looked for: loops, veiled, ifaces, maps, wideKeys, modest, calm, conditions, laid).
  DERIVED. THE GIVEN ROWS OF THIS SEAT. 5 by the template 'for every input the law returns true; each argument reads behind the call as it read before'; 0 by the template 'total and deterministic' (their statements: YtbpcmlekankgmaaTotals.lean).
  GIVEN WITH THE SEED: the statements are not yours to turn. If you find one false, say at which input.
  Laid BY PROGRAM, IN A SANDBOX (cutbox-rows.mjs): the forced cells as the released guide's own fill.sh prints them over the translation 1ab8aaca337005b8… (all of the seat's roots in one cut). By AI agents, Wed Nov 11 2026. No macro, syntax, notation, axiom, sorry.
-/
import Derived.Test.YtbpcmlekankgmaaChecked
import GoSem.Claim
import GoSem.ClaimJoined
import GoSem.ClaimMapViews
import Derived.JoinedTies
import Derived.KernelRfl
namespace Go.Proofs.Ytbpcmlekankgmaa
/- THE CELL 'sum', in the pinned program and in every row, IS THE sha256 OF THE DUMP (.gsa) THAT YtbpcmlekankgmaaProg.lean LOADS. Nothing in Lean hashes anything: it is a label: what it is worth is what the hold of that sum in a sandbox is worth. -/
noncomputable def Try.pinned : Pinned := { name := "ytbpcmlekankgmaa", sum := "1ab8aaca337005b8b762cb926256a812144b88fb72a6ba2b9024cc07da7dc551", checked := Try.checked }
namespace Rows
def none {H : Type} : Left H := { results := [], args := [] }

/-- 'gemellaw13.BitsRuns': WHATEVER THE INPUT: true; the input reads as it did. -/
def bitsRunsSpec : ChangeSpec := { name := "bitsRuns", fn := fun _ => fun
  | [d] => { results := [.lit (.bool true)], args := [d] }
  | _ => none }
def bitsRunsRow : OpenClaim := { program := "ytbpcmlekankgmaa", sum := "1ab8aaca337005b8b762cb926256a812144b88fb72a6ba2b9024cc07da7dc551", func := "gemel/gemellaw13.BitsRuns", spec := "bitsRuns", unfollowed := true, recurses := true, apart := false }
def BitsRunsSaid : Prop := bitsRunsRow.holds Try.pinned (OpenSpec.ofChange bitsRunsSpec)

/-- ITS FALSE NEIGHBOUR: 'it returns false'. Refute it at one input. -/
def bitsRunsWrong : ChangeSpec := { name := "bitsRuns", fn := fun _ => fun
  | [d] => { results := [.lit (.bool false)], args := [d] }
  | _ => none }
def BitsRunsWrongFalsely : Prop := bitsRunsRow.holds Try.pinned (OpenSpec.ofChange bitsRunsWrong)

/-- 'gemellaw14.SpaceOnce': WHATEVER THE INPUT: true; the input reads as it did. -/
def spaceOnceSpec : ChangeSpec := { name := "spaceOnce", fn := fun _ => fun
  | [d1, d2, d3, d4] => { results := [.lit (.bool true)], args := [d1, d2, d3, d4] }
  | _ => none }
def spaceOnceRow : OpenClaim := { program := "ytbpcmlekankgmaa", sum := "1ab8aaca337005b8b762cb926256a812144b88fb72a6ba2b9024cc07da7dc551", func := "gemel/gemellaw14.SpaceOnce", spec := "spaceOnce", apart := false }
def SpaceOnceSaid : Prop := spaceOnceRow.holds Try.pinned (OpenSpec.ofChange spaceOnceSpec)

/-- ITS FALSE NEIGHBOUR: 'it returns false'. Refute it at one input. -/
def spaceOnceWrong : ChangeSpec := { name := "spaceOnce", fn := fun _ => fun
  | [d1, d2, d3, d4] => { results := [.lit (.bool false)], args := [d1, d2, d3, d4] }
  | _ => none }
def SpaceOnceWrongFalsely : Prop := spaceOnceRow.holds Try.pinned (OpenSpec.ofChange spaceOnceWrong)

/-- 'gemellaw14.SpaceZero': WHATEVER THE INPUT: true; the input reads as it did. -/
def spaceZeroSpec : ChangeSpec := { name := "spaceZero", fn := fun _ => fun
  | [d1, d2, d3] => { results := [.lit (.bool true)], args := [d1, d2, d3] }
  | _ => none }
def spaceZeroRow : OpenClaim := { program := "ytbpcmlekankgmaa", sum := "1ab8aaca337005b8b762cb926256a812144b88fb72a6ba2b9024cc07da7dc551", func := "gemel/gemellaw14.SpaceZero", spec := "spaceZero", apart := false }
def SpaceZeroSaid : Prop := spaceZeroRow.holds Try.pinned (OpenSpec.ofChange spaceZeroSpec)

/-- ITS FALSE NEIGHBOUR: 'it returns false'. Refute it at one input. -/
def spaceZeroWrong : ChangeSpec := { name := "spaceZero", fn := fun _ => fun
  | [d1, d2, d3] => { results := [.lit (.bool false)], args := [d1, d2, d3] }
  | _ => none }
def SpaceZeroWrongFalsely : Prop := spaceZeroRow.holds Try.pinned (OpenSpec.ofChange spaceZeroWrong)

/-- 'gemellaw14.SpaceSwaps': WHATEVER THE INPUT: true; the input reads as it did. -/
def spaceSwapsSpec : ChangeSpec := { name := "spaceSwaps", fn := fun _ => fun
  | [d] => { results := [.lit (.bool true)], args := [d] }
  | _ => none }
def spaceSwapsRow : OpenClaim := { program := "ytbpcmlekankgmaa", sum := "1ab8aaca337005b8b762cb926256a812144b88fb72a6ba2b9024cc07da7dc551", func := "gemel/gemellaw14.SpaceSwaps", spec := "spaceSwaps", apart := false }
def SpaceSwapsSaid : Prop := spaceSwapsRow.holds Try.pinned (OpenSpec.ofChange spaceSwapsSpec)

/-- ITS FALSE NEIGHBOUR: 'it returns false'. Refute it at one input. -/
def spaceSwapsWrong : ChangeSpec := { name := "spaceSwaps", fn := fun _ => fun
  | [d] => { results := [.lit (.bool false)], args := [d] }
  | _ => none }
def SpaceSwapsWrongFalsely : Prop := spaceSwapsRow.holds Try.pinned (OpenSpec.ofChange spaceSwapsWrong)

/-- 'gemellaw14.SpaceParts': WHATEVER THE INPUT: true; the input reads as it did. -/
def spacePartsSpec : ChangeSpec := { name := "spaceParts", fn := fun _ => fun
  | [d1, d2, d3] => { results := [.lit (.bool true)], args := [d1, d2, d3] }
  | _ => none }
def spacePartsRow : OpenClaim := { program := "ytbpcmlekankgmaa", sum := "1ab8aaca337005b8b762cb926256a812144b88fb72a6ba2b9024cc07da7dc551", func := "gemel/gemellaw14.SpaceParts", spec := "spaceParts", apart := false }
def SpacePartsSaid : Prop := spacePartsRow.holds Try.pinned (OpenSpec.ofChange spacePartsSpec)

/-- ITS FALSE NEIGHBOUR: 'it returns false'. Refute it at one input. -/
def spacePartsWrong : ChangeSpec := { name := "spaceParts", fn := fun _ => fun
  | [d1, d2, d3] => { results := [.lit (.bool false)], args := [d1, d2, d3] }
  | _ => none }
def SpacePartsWrongFalsely : Prop := spacePartsRow.holds Try.pinned (OpenSpec.ofChange spacePartsWrong)

/- THE SECOND FORM. 'bulk': how many values and letters a reading holds, each counted each time it is reached (what is shared counts as often as it is met; a slice's spare places count too). A statement '..UptoSaid' is the law's where the arguments, and the package variables that the reading takes, are together of bulk at most 1048576: NARROWER than '..Said'. Prove '..Said' where nothing that the law and all that it calls make is longer than what came in: it says more and counts as full. Else prove '..UptoSaid'. A law counts once. -/
mutual
def uptoBulk {H : Type} : DataW H → Nat
  | .lit (.string bytes) => bytes.length + 1
  | .lit _ => 1
  | .nil => 1
  | .ptr d => uptoBulk d + 1
  | .slice elems spare => uptoBulkAll elems + uptoBulkAll spare + 1
  | .agg parts => uptoBulkAll parts + 1
  | .iface _ d => uptoBulk d + 1
  | .map entries => uptoBulkEntries entries + 1
  | .held _ => 1
def uptoBulkAll {H : Type} : List (DataW H) → Nat
  | [] => 0
  | d :: r => uptoBulk d + uptoBulkAll r
def uptoBulkEntries {H : Type} : List (Lit × DataW H) → Nat
  | [] => 0
  | x :: r => uptoBulkEntry x + uptoBulkEntries r
def uptoBulkEntry {H : Type} : Lit × DataW H → Nat
  | (.string bytes, d) => bytes.length + uptoBulk d + 1
  | (_, d) => uptoBulk d + 1
 end
def uptoSmall : (H : Type) → List (DataW H) → Bool := fun _ ds => decide (uptoBulkAll ds ≤ 1048576)
def OpenSpec.upto (s : _root_.Go.ChangeSpec) : _root_.Go.OpenSpec := { _root_.Go.OpenSpec.ofChange s with cond := some uptoSmall }

/-- 'gemellaw13.BitsRuns', WHERE WHAT IT READS IS OF BULK AT MOST 1048576: true; the input reads as it did. -/
def bitsRunsUptoRow : OpenClaim := { program := "ytbpcmlekankgmaa", sum := "1ab8aaca337005b8b762cb926256a812144b88fb72a6ba2b9024cc07da7dc551", func := "gemel/gemellaw13.BitsRuns", spec := "bitsRuns", unfollowed := true, recurses := true, apart := false, narrowed := true }
def BitsRunsUptoSaid : Prop := bitsRunsUptoRow.holds Try.pinned (OpenSpec.upto bitsRunsSpec)

/-- 'gemellaw14.SpaceOnce', WHERE WHAT IT READS IS OF BULK AT MOST 1048576: true; the input reads as it did. -/
def spaceOnceUptoRow : OpenClaim := { program := "ytbpcmlekankgmaa", sum := "1ab8aaca337005b8b762cb926256a812144b88fb72a6ba2b9024cc07da7dc551", func := "gemel/gemellaw14.SpaceOnce", spec := "spaceOnce", apart := false, narrowed := true }
def SpaceOnceUptoSaid : Prop := spaceOnceUptoRow.holds Try.pinned (OpenSpec.upto spaceOnceSpec)

/-- 'gemellaw14.SpaceZero', WHERE WHAT IT READS IS OF BULK AT MOST 1048576: true; the input reads as it did. -/
def spaceZeroUptoRow : OpenClaim := { program := "ytbpcmlekankgmaa", sum := "1ab8aaca337005b8b762cb926256a812144b88fb72a6ba2b9024cc07da7dc551", func := "gemel/gemellaw14.SpaceZero", spec := "spaceZero", apart := false, narrowed := true }
def SpaceZeroUptoSaid : Prop := spaceZeroUptoRow.holds Try.pinned (OpenSpec.upto spaceZeroSpec)

/-- 'gemellaw14.SpaceSwaps', WHERE WHAT IT READS IS OF BULK AT MOST 1048576: true; the input reads as it did. -/
def spaceSwapsUptoRow : OpenClaim := { program := "ytbpcmlekankgmaa", sum := "1ab8aaca337005b8b762cb926256a812144b88fb72a6ba2b9024cc07da7dc551", func := "gemel/gemellaw14.SpaceSwaps", spec := "spaceSwaps", apart := false, narrowed := true }
def SpaceSwapsUptoSaid : Prop := spaceSwapsUptoRow.holds Try.pinned (OpenSpec.upto spaceSwapsSpec)

/-- 'gemellaw14.SpaceParts', WHERE WHAT IT READS IS OF BULK AT MOST 1048576: true; the input reads as it did. -/
def spacePartsUptoRow : OpenClaim := { program := "ytbpcmlekankgmaa", sum := "1ab8aaca337005b8b762cb926256a812144b88fb72a6ba2b9024cc07da7dc551", func := "gemel/gemellaw14.SpaceParts", spec := "spaceParts", apart := false, narrowed := true }
def SpacePartsUptoSaid : Prop := spacePartsUptoRow.holds Try.pinned (OpenSpec.upto spacePartsSpec)

end Rows
end Go.Proofs.Ytbpcmlekankgmaa
