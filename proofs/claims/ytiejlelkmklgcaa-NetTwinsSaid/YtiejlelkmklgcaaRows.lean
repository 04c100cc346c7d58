/-
  No cell of these rows narrows 'for every input' (looked for: loops, veiled, ifaces, maps, wideKeys, modest, calm, conditions, laid).
  DERIVED. THE GIVEN ROWS OF THIS SEAT. 6 by the template 'for every input the law returns true; each argument reads behind the call as it read before'; 0 by the template 'total and deterministic' (their statements: YtiejlelkmklgcaaTotals.lean).
  GIVEN WITH THE SEED: the statements are not yours to turn. If you find one false, say at which input.
  Laid BY PROGRAM, IN A SANDBOX (cutbox-rows.mjs): the forced cells as the released guide's own fill.sh prints them over the translation 9622da966167cd6e… (all of the seat's roots in one cut). By AI agents, Wed Nov 11 2026. No macro, syntax, notation, axiom, sorry.
-/
import Derived.Test.YtiejlelkmklgcaaChecked
import GoSem.Claim
import GoSem.ClaimJoined
import GoSem.ClaimMapViews
import Derived.JoinedTies
import Derived.KernelRfl
namespace Go.Proofs.Ytiejlelkmklgcaa
/- THE CELL 'sum', in the pinned program and in every row, IS THE sha256 OF THE DUMP (.gsa) THAT YtiejlelkmklgcaaProg.lean LOADS. Nothing in Lean hashes anything: it is a label: what it is worth is what the hold of that sum in a sandbox is worth. -/
noncomputable def Try.pinned : Pinned := { name := "ytiejlelkmklgcaa", sum := "9622da966167cd6e94128284129e95cb740a052cd2bb756fed789eb2aa7d22ce", checked := Try.checked }
namespace Rows
def none {H : Type} : Left H := { results := [], args := [] }

/-- 'gemellaw9.NetFull': WHATEVER THE INPUT: true; the input reads as it did. -/
def netFullSpec : ChangeSpec := { name := "netFull", fn := fun _ => fun
  | [d] => { results := [.lit (.bool true)], args := [d] }
  | _ => none }
def netFullRow : OpenClaim := { program := "ytiejlelkmklgcaa", sum := "9622da966167cd6e94128284129e95cb740a052cd2bb756fed789eb2aa7d22ce", func := "gemel/gemellaw9.NetFull", spec := "netFull", apart := false }
def NetFullSaid : Prop := netFullRow.holds Try.pinned (OpenSpec.ofChange netFullSpec)

/-- ITS FALSE NEIGHBOUR: 'it returns false'. Refute it at one input. -/
def netFullWrong : ChangeSpec := { name := "netFull", fn := fun _ => fun
  | [d] => { results := [.lit (.bool false)], args := [d] }
  | _ => none }
def NetFullWrongFalsely : Prop := netFullRow.holds Try.pinned (OpenSpec.ofChange netFullWrong)

/-- 'gemellaw9.NetOrder': WHATEVER THE INPUT: true; the input reads as it did. -/
def netOrderSpec : ChangeSpec := { name := "netOrder", fn := fun _ => fun
  | [d1, d2] => { results := [.lit (.bool true)], args := [d1, d2] }
  | _ => none }
def netOrderRow : OpenClaim := { program := "ytiejlelkmklgcaa", sum := "9622da966167cd6e94128284129e95cb740a052cd2bb756fed789eb2aa7d22ce", func := "gemel/gemellaw9.NetOrder", spec := "netOrder", apart := false }
def NetOrderSaid : Prop := netOrderRow.holds Try.pinned (OpenSpec.ofChange netOrderSpec)

/-- ITS FALSE NEIGHBOUR: 'it returns false'. Refute it at one input. -/
def netOrderWrong : ChangeSpec := { name := "netOrder", fn := fun _ => fun
  | [d1, d2] => { results := [.lit (.bool false)], args := [d1, d2] }
  | _ => none }
def NetOrderWrongFalsely : Prop := netOrderRow.holds Try.pinned (OpenSpec.ofChange netOrderWrong)

/-- 'gemellaw9.NetPlays': WHATEVER THE INPUT: true; the input reads as it did. -/
def netPlaysSpec : ChangeSpec := { name := "netPlays", fn := fun _ => fun
  | [d1, d2] => { results := [.lit (.bool true)], args := [d1, d2] }
  | _ => none }
def netPlaysRow : OpenClaim := { program := "ytiejlelkmklgcaa", sum := "9622da966167cd6e94128284129e95cb740a052cd2bb756fed789eb2aa7d22ce", func := "gemel/gemellaw9.NetPlays", spec := "netPlays", apart := false }
def NetPlaysSaid : Prop := netPlaysRow.holds Try.pinned (OpenSpec.ofChange netPlaysSpec)

/-- ITS FALSE NEIGHBOUR: 'it returns false'. Refute it at one input. -/
def netPlaysWrong : ChangeSpec := { name := "netPlays", fn := fun _ => fun
  | [d1, d2] => { results := [.lit (.bool false)], args := [d1, d2] }
  | _ => none }
def NetPlaysWrongFalsely : Prop := netPlaysRow.holds Try.pinned (OpenSpec.ofChange netPlaysWrong)

/-- 'gemellaw9.NetCopies': WHATEVER THE INPUT: true; the input reads as it did. -/
def netCopiesSpec : ChangeSpec := { name := "netCopies", fn := fun _ => fun
  | [d1, d2, d3] => { results := [.lit (.bool true)], args := [d1, d2, d3] }
  | _ => none }
def netCopiesRow : OpenClaim := { program := "ytiejlelkmklgcaa", sum := "9622da966167cd6e94128284129e95cb740a052cd2bb756fed789eb2aa7d22ce", func := "gemel/gemellaw9.NetCopies", spec := "netCopies", apart := false }
def NetCopiesSaid : Prop := netCopiesRow.holds Try.pinned (OpenSpec.ofChange netCopiesSpec)

/-- ITS FALSE NEIGHBOUR: 'it returns false'. Refute it at one input. -/
def netCopiesWrong : ChangeSpec := { name := "netCopies", fn := fun _ => fun
  | [d1, d2, d3] => { results := [.lit (.bool false)], args := [d1, d2, d3] }
  | _ => none }
def NetCopiesWrongFalsely : Prop := netCopiesRow.holds Try.pinned (OpenSpec.ofChange netCopiesWrong)

/-- 'gemellaw9.NetLoses': WHATEVER THE INPUT: true; the input reads as it did. -/
def netLosesSpec : ChangeSpec := { name := "netLoses", fn := fun _ => fun
  | [d] => { results := [.lit (.bool true)], args := [d] }
  | _ => none }
def netLosesRow : OpenClaim := { program := "ytiejlelkmklgcaa", sum := "9622da966167cd6e94128284129e95cb740a052cd2bb756fed789eb2aa7d22ce", func := "gemel/gemellaw9.NetLoses", spec := "netLoses", apart := false }
def NetLosesSaid : Prop := netLosesRow.holds Try.pinned (OpenSpec.ofChange netLosesSpec)

/-- ITS FALSE NEIGHBOUR: 'it returns false'. Refute it at one input. -/
def netLosesWrong : ChangeSpec := { name := "netLoses", fn := fun _ => fun
  | [d] => { results := [.lit (.bool false)], args := [d] }
  | _ => none }
def NetLosesWrongFalsely : Prop := netLosesRow.holds Try.pinned (OpenSpec.ofChange netLosesWrong)

/-- 'gemellaw9.NetTwins': WHATEVER THE INPUT: true; the input reads as it did. -/
def netTwinsSpec : ChangeSpec := { name := "netTwins", fn := fun _ => fun
  | [d1, d2, d3] => { results := [.lit (.bool true)], args := [d1, d2, d3] }
  | _ => none }
def netTwinsRow : OpenClaim := { program := "ytiejlelkmklgcaa", sum := "9622da966167cd6e94128284129e95cb740a052cd2bb756fed789eb2aa7d22ce", func := "gemel/gemellaw9.NetTwins", spec := "netTwins", apart := false }
def NetTwinsSaid : Prop := netTwinsRow.holds Try.pinned (OpenSpec.ofChange netTwinsSpec)

/-- ITS FALSE NEIGHBOUR: 'it returns false'. Refute it at one input. -/
def netTwinsWrong : ChangeSpec := { name := "netTwins", fn := fun _ => fun
  | [d1, d2, d3] => { results := [.lit (.bool false)], args := [d1, d2, d3] }
  | _ => none }
def NetTwinsWrongFalsely : Prop := netTwinsRow.holds Try.pinned (OpenSpec.ofChange netTwinsWrong)

/- THE SECOND FORM. 'bulk': how many values and letters a reading holds, each counted each time it is reached (what is shared counts as often as it is met; a slice's spare places count too). A statement '..UptoSaid' is the law's where the arguments, and the package variables that the reading takes, are together of bulk at most 1048576: NARROWER than '..Said'. Prove '..Said' where nothing that the law and all that it calls make is longer than what came in: it says more and counts as full. Else prove '..UptoSaid'. A law counts once. -/
mutual
def uptoBulk {H : Type} : DataW H → Nat
  | .lit (.string bytes) => bytes.length + 1
  | .lit _ => 1
  | .nil => 1
  | .ptr d => uptoBulk d + 1
  | .slice elems spare => uptoBulkAll elems + uptoBulkAll spare + 1
  | .agg parts => uptoBulkAll parts + 1
  | .iface _ d => uptoBulk d + 1
  | .map entries => uptoBulkEntries entries + 1
  | .held _ => 1
def uptoBulkAll {H : Type} : List (DataW H) → Nat
  | [] => 0
  | d :: r => uptoBulk d + uptoBulkAll r
def uptoBulkEntries {H : Type} : List (Lit × DataW H) → Nat
  | [] => 0
  | x :: r => uptoBulkEntry x + uptoBulkEntries r
def uptoBulkEntry {H : Type} : Lit × DataW H → Nat
  | (.string bytes, d) => bytes.length + uptoBulk d + 1
  | (_, d) => uptoBulk d + 1
 end
def uptoSmall : (H : Type) → List (DataW H) → Bool := fun _ ds => decide (uptoBulkAll ds ≤ 1048576)
def OpenSpec.upto (s : _root_.Go.ChangeSpec) : _root_.Go.OpenSpec := { _root_.Go.OpenSpec.ofChange s with cond := some uptoSmall }

/-- 'gemellaw9.NetFull', WHERE WHAT IT READS IS OF BULK AT MOST 1048576: true; the input reads as it did. -/
def netFullUptoRow : OpenClaim := { program := "ytiejlelkmklgcaa", sum := "9622da966167cd6e94128284129e95cb740a052cd2bb756fed789eb2aa7d22ce", func := "gemel/gemellaw9.NetFull", spec := "netFull", apart := false, narrowed := true }
def NetFullUptoSaid : Prop := netFullUptoRow.holds Try.pinned (OpenSpec.upto netFullSpec)

/-- 'gemellaw9.NetOrder', WHERE WHAT IT READS IS OF BULK AT MOST 1048576: true; the input reads as it did. -/
def netOrderUptoRow : OpenClaim := { program := "ytiejlelkmklgcaa", sum := "9622da966167cd6e94128284129e95cb740a052cd2bb756fed789eb2aa7d22ce", func := "gemel/gemellaw9.NetOrder", spec := "netOrder", apart := false, narrowed := true }
def NetOrderUptoSaid : Prop := netOrderUptoRow.holds Try.pinned (OpenSpec.upto netOrderSpec)

/-- 'gemellaw9.NetPlays', WHERE WHAT IT READS IS OF BULK AT MOST 1048576: true; the input reads as it did. -/
def netPlaysUptoRow : OpenClaim := { program := "ytiejlelkmklgcaa", sum := "9622da966167cd6e94128284129e95cb740a052cd2bb756fed789eb2aa7d22ce", func := "gemel/gemellaw9.NetPlays", spec := "netPlays", apart := false, narrowed := true }
def NetPlaysUptoSaid : Prop := netPlaysUptoRow.holds Try.pinned (OpenSpec.upto netPlaysSpec)

/-- 'gemellaw9.NetCopies', WHERE WHAT IT READS IS OF BULK AT MOST 1048576: true; the input reads as it did. -/
def netCopiesUptoRow : OpenClaim := { program := "ytiejlelkmklgcaa", sum := "9622da966167cd6e94128284129e95cb740a052cd2bb756fed789eb2aa7d22ce", func := "gemel/gemellaw9.NetCopies", spec := "netCopies", apart := false, narrowed := true }
def NetCopiesUptoSaid : Prop := netCopiesUptoRow.holds Try.pinned (OpenSpec.upto netCopiesSpec)

/-- 'gemellaw9.NetLoses', WHERE WHAT IT READS IS OF BULK AT MOST 1048576: true; the input reads as it did. -/
def netLosesUptoRow : OpenClaim := { program := "ytiejlelkmklgcaa", sum := "9622da966167cd6e94128284129e95cb740a052cd2bb756fed789eb2aa7d22ce", func := "gemel/gemellaw9.NetLoses", spec := "netLoses", apart := false, narrowed := true }
def NetLosesUptoSaid : Prop := netLosesUptoRow.holds Try.pinned (OpenSpec.upto netLosesSpec)

/-- 'gemellaw9.NetTwins', WHERE WHAT IT READS IS OF BULK AT MOST 1048576: true; the input reads as it did. -/
def netTwinsUptoRow : OpenClaim := { program := "ytiejlelkmklgcaa", sum := "9622da966167cd6e94128284129e95cb740a052cd2bb756fed789eb2aa7d22ce", func := "gemel/gemellaw9.NetTwins", spec := "netTwins", apart := false, narrowed := true }
def NetTwinsUptoSaid : Prop := netTwinsUptoRow.holds Try.pinned (OpenSpec.upto netTwinsSpec)

end Rows
end Go.Proofs.Ytiejlelkmklgcaa
