/-
  No cell of these rows narrows 'for every input' (looked for: loops, veiled, ifaces, maps, wideKeys, modest, calm, conditions, laid).
  DERIVED. THE GIVEN ROWS OF THIS SEAT. 12 by the template 'for every input the law returns true; each argument reads behind the call as it read before'; 0 by the template 'total and deterministic' (their statements: YtlahgihjjabgmaaTotals.lean).
  GIVEN WITH THE SEED: the statements are not yours to turn. If you find one false, say at which input.
  Laid BY PROGRAM, IN A SANDBOX (cutbox-rows.mjs): the forced cells as the released guide's own fill.sh prints them over the translation 16630c97cf305d93… (all of the seat's roots in one cut). By AI agents, Wed Nov 11 2026. No macro, syntax, notation, axiom, sorry.
-/
import Derived.Test.YtlahgihjjabgmaaChecked
import GoSem.Claim
import GoSem.ClaimJoined
import GoSem.ClaimMapViews
import Derived.JoinedTies
import Derived.KernelRfl
namespace Go.Proofs.Ytlahgihjjabgmaa
/- THE CELL 'sum', in the pinned program and in every row, IS THE sha256 OF THE DUMP (.gsa) THAT YtlahgihjjabgmaaProg.lean LOADS. Nothing in Lean hashes anything: it is a label: what it is worth is what the hold of that sum in a sandbox is worth. -/
noncomputable def Try.pinned : Pinned := { name := "ytlahgihjjabgmaa", sum := "16630c97cf305d93a5646fde3697a5a35f192a599b5dc269e83986fc2e453e5e", checked := Try.checked }
namespace Rows
def none {H : Type} : Left H := { results := [], args := [] }

/-- 'gemellaw8.DiskLasts': WHATEVER THE INPUT: true; the input reads as it did. -/
def diskLastsSpec : ChangeSpec := { name := "diskLasts", fn := fun _ => fun
  | [d1, d2, d3] => { results := [.lit (.bool true)], args := [d1, d2, d3] }
  | _ => none }
def diskLastsRow : OpenClaim := { program := "ytlahgihjjabgmaa", sum := "16630c97cf305d93a5646fde3697a5a35f192a599b5dc269e83986fc2e453e5e", func := "gemel/gemellaw8.DiskLasts", spec := "diskLasts", unfollowed := true, recurses := true, apart := false }
def DiskLastsSaid : Prop := diskLastsRow.holds Try.pinned (OpenSpec.ofChange diskLastsSpec)

/-- ITS FALSE NEIGHBOUR: 'it returns false'. Refute it at one input. -/
def diskLastsWrong : ChangeSpec := { name := "diskLasts", fn := fun _ => fun
  | [d1, d2, d3] => { results := [.lit (.bool false)], args := [d1, d2, d3] }
  | _ => none }
def DiskLastsWrongFalsely : Prop := diskLastsRow.holds Try.pinned (OpenSpec.ofChange diskLastsWrong)

/-- 'gemellaw8.DiskOrder': WHATEVER THE INPUT: true; the input reads as it did. -/
def diskOrderSpec : ChangeSpec := { name := "diskOrder", fn := fun _ => fun
  | [d1, d2] => { results := [.lit (.bool true)], args := [d1, d2] }
  | _ => none }
def diskOrderRow : OpenClaim := { program := "ytlahgihjjabgmaa", sum := "16630c97cf305d93a5646fde3697a5a35f192a599b5dc269e83986fc2e453e5e", func := "gemel/gemellaw8.DiskOrder", spec := "diskOrder", unfollowed := true, recurses := true, apart := false }
def DiskOrderSaid : Prop := diskOrderRow.holds Try.pinned (OpenSpec.ofChange diskOrderSpec)

/-- ITS FALSE NEIGHBOUR: 'it returns false'. Refute it at one input. -/
def diskOrderWrong : ChangeSpec := { name := "diskOrder", fn := fun _ => fun
  | [d1, d2] => { results := [.lit (.bool false)], args := [d1, d2] }
  | _ => none }
def DiskOrderWrongFalsely : Prop := diskOrderRow.holds Try.pinned (OpenSpec.ofChange diskOrderWrong)

/-- 'gemellaw11.TwinBytes': WHATEVER THE INPUT: true; the input reads as it did. -/
def twinBytesSpec : ChangeSpec := { name := "twinBytes", fn := fun _ => fun
  | [d1, d2, d3] => { results := [.lit (.bool true)], args := [d1, d2, d3] }
  | _ => none }
def twinBytesRow : OpenClaim := { program := "ytlahgihjjabgmaa", sum := "16630c97cf305d93a5646fde3697a5a35f192a599b5dc269e83986fc2e453e5e", func := "gemel/gemellaw11.TwinBytes", spec := "twinBytes", unfollowed := true, recurses := true, apart := false }
def TwinBytesSaid : Prop := twinBytesRow.holds Try.pinned (OpenSpec.ofChange twinBytesSpec)

/-- ITS FALSE NEIGHBOUR: 'it returns false'. Refute it at one input. -/
def twinBytesWrong : ChangeSpec := { name := "twinBytes", fn := fun _ => fun
  | [d1, d2, d3] => { results := [.lit (.bool false)], args := [d1, d2, d3] }
  | _ => none }
def TwinBytesWrongFalsely : Prop := twinBytesRow.holds Try.pinned (OpenSpec.ofChange twinBytesWrong)

/-- 'gemellaw11.TwinBlank': WHATEVER THE INPUT: true; the input reads as it did. -/
def twinBlankSpec : ChangeSpec := { name := "twinBlank", fn := fun _ => fun
  | [d1, d2] => { results := [.lit (.bool true)], args := [d1, d2] }
  | _ => none }
def twinBlankRow : OpenClaim := { program := "ytlahgihjjabgmaa", sum := "16630c97cf305d93a5646fde3697a5a35f192a599b5dc269e83986fc2e453e5e", func := "gemel/gemellaw11.TwinBlank", spec := "twinBlank", unfollowed := true, recurses := true, apart := false }
def TwinBlankSaid : Prop := twinBlankRow.holds Try.pinned (OpenSpec.ofChange twinBlankSpec)

/-- ITS FALSE NEIGHBOUR: 'it returns false'. Refute it at one input. -/
def twinBlankWrong : ChangeSpec := { name := "twinBlank", fn := fun _ => fun
  | [d1, d2] => { results := [.lit (.bool false)], args := [d1, d2] }
  | _ => none }
def TwinBlankWrongFalsely : Prop := twinBlankRow.holds Try.pinned (OpenSpec.ofChange twinBlankWrong)

/-- 'gemellaw12.RingLives': WHATEVER THE INPUT: true; the input reads as it did. -/
def ringLivesSpec : ChangeSpec := { name := "ringLives", fn := fun _ => fun
  | [d1, d2, d3] => { results := [.lit (.bool true)], args := [d1, d2, d3] }
  | _ => none }
def ringLivesRow : OpenClaim := { program := "ytlahgihjjabgmaa", sum := "16630c97cf305d93a5646fde3697a5a35f192a599b5dc269e83986fc2e453e5e", func := "gemel/gemellaw12.RingLives", spec := "ringLives", unfollowed := true, recurses := true, apart := false }
def RingLivesSaid : Prop := ringLivesRow.holds Try.pinned (OpenSpec.ofChange ringLivesSpec)

/-- ITS FALSE NEIGHBOUR: 'it returns false'. Refute it at one input. -/
def ringLivesWrong : ChangeSpec := { name := "ringLives", fn := fun _ => fun
  | [d1, d2, d3] => { results := [.lit (.bool false)], args := [d1, d2, d3] }
  | _ => none }
def RingLivesWrongFalsely : Prop := ringLivesRow.holds Try.pinned (OpenSpec.ofChange ringLivesWrong)

/-- 'gemellaw12.RingLong': WHATEVER THE INPUT: true; the input reads as it did. -/
def ringLongSpec : ChangeSpec := { name := "ringLong", fn := fun _ => fun
  | [d1, d2] => { results := [.lit (.bool true)], args := [d1, d2] }
  | _ => none }
def ringLongRow : OpenClaim := { program := "ytlahgihjjabgmaa", sum := "16630c97cf305d93a5646fde3697a5a35f192a599b5dc269e83986fc2e453e5e", func := "gemel/gemellaw12.RingLong", spec := "ringLong", unfollowed := true, recurses := true, apart := false }
def RingLongSaid : Prop := ringLongRow.holds Try.pinned (OpenSpec.ofChange ringLongSpec)

/-- ITS FALSE NEIGHBOUR: 'it returns false'. Refute it at one input. -/
def ringLongWrong : ChangeSpec := { name := "ringLong", fn := fun _ => fun
  | [d1, d2] => { results := [.lit (.bool false)], args := [d1, d2] }
  | _ => none }
def RingLongWrongFalsely : Prop := ringLongRow.holds Try.pinned (OpenSpec.ofChange ringLongWrong)

/-- 'gemellaw12.RingFull': WHATEVER THE INPUT: true; the input reads as it did. -/
def ringFullSpec : ChangeSpec := { name := "ringFull", fn := fun _ => fun
  | [d1, d2] => { results := [.lit (.bool true)], args := [d1, d2] }
  | _ => none }
def ringFullRow : OpenClaim := { program := "ytlahgihjjabgmaa", sum := "16630c97cf305d93a5646fde3697a5a35f192a599b5dc269e83986fc2e453e5e", func := "gemel/gemellaw12.RingFull", spec := "ringFull", unfollowed := true, recurses := true, apart := false }
def RingFullSaid : Prop := ringFullRow.holds Try.pinned (OpenSpec.ofChange ringFullSpec)

/-- ITS FALSE NEIGHBOUR: 'it returns false'. Refute it at one input. -/
def ringFullWrong : ChangeSpec := { name := "ringFull", fn := fun _ => fun
  | [d1, d2] => { results := [.lit (.bool false)], args := [d1, d2] }
  | _ => none }
def RingFullWrongFalsely : Prop := ringFullRow.holds Try.pinned (OpenSpec.ofChange ringFullWrong)

/-- 'gemellaw23.WitnessBytes': WHATEVER THE INPUT: true; the input reads as it did. -/
def witnessBytesSpec : ChangeSpec := { name := "witnessBytes", fn := fun _ => fun
  | [d1, d2] => { results := [.lit (.bool true)], args := [d1, d2] }
  | _ => none }
def witnessBytesRow : OpenClaim := { program := "ytlahgihjjabgmaa", sum := "16630c97cf305d93a5646fde3697a5a35f192a599b5dc269e83986fc2e453e5e", func := "gemel/gemellaw23.WitnessBytes", spec := "witnessBytes", unfollowed := true, recurses := true, apart := false }
def WitnessBytesSaid : Prop := witnessBytesRow.holds Try.pinned (OpenSpec.ofChange witnessBytesSpec)

/-- ITS FALSE NEIGHBOUR: 'it returns false'. Refute it at one input. -/
def witnessBytesWrong : ChangeSpec := { name := "witnessBytes", fn := fun _ => fun
  | [d1, d2] => { results := [.lit (.bool false)], args := [d1, d2] }
  | _ => none }
def WitnessBytesWrongFalsely : Prop := witnessBytesRow.holds Try.pinned (OpenSpec.ofChange witnessBytesWrong)

/-- 'gemellaw23.WitnessRaces': WHATEVER THE INPUT: true; the input reads as it did. -/
def witnessRacesSpec : ChangeSpec := { name := "witnessRaces", fn := fun _ => fun
  | [d] => { results := [.lit (.bool true)], args := [d] }
  | _ => none }
def witnessRacesRow : OpenClaim := { program := "ytlahgihjjabgmaa", sum := "16630c97cf305d93a5646fde3697a5a35f192a599b5dc269e83986fc2e453e5e", func := "gemel/gemellaw23.WitnessRaces", spec := "witnessRaces", unfollowed := true, recurses := true, apart := false }
def WitnessRacesSaid : Prop := witnessRacesRow.holds Try.pinned (OpenSpec.ofChange witnessRacesSpec)

/-- ITS FALSE NEIGHBOUR: 'it returns false'. Refute it at one input. -/
def witnessRacesWrong : ChangeSpec := { name := "witnessRaces", fn := fun _ => fun
  | [d] => { results := [.lit (.bool false)], args := [d] }
  | _ => none }
def WitnessRacesWrongFalsely : Prop := witnessRacesRow.holds Try.pinned (OpenSpec.ofChange witnessRacesWrong)

/-- 'gemellaw23.WitnessCrash': WHATEVER THE INPUT: true; the input reads as it did. -/
def witnessCrashSpec : ChangeSpec := { name := "witnessCrash", fn := fun _ => fun
  | [d1, d2, d3] => { results := [.lit (.bool true)], args := [d1, d2, d3] }
  | _ => none }
def witnessCrashRow : OpenClaim := { program := "ytlahgihjjabgmaa", sum := "16630c97cf305d93a5646fde3697a5a35f192a599b5dc269e83986fc2e453e5e", func := "gemel/gemellaw23.WitnessCrash", spec := "witnessCrash", unfollowed := true, recurses := true, apart := false }
def WitnessCrashSaid : Prop := witnessCrashRow.holds Try.pinned (OpenSpec.ofChange witnessCrashSpec)

/-- ITS FALSE NEIGHBOUR: 'it returns false'. Refute it at one input. -/
def witnessCrashWrong : ChangeSpec := { name := "witnessCrash", fn := fun _ => fun
  | [d1, d2, d3] => { results := [.lit (.bool false)], args := [d1, d2, d3] }
  | _ => none }
def WitnessCrashWrongFalsely : Prop := witnessCrashRow.holds Try.pinned (OpenSpec.ofChange witnessCrashWrong)

/-- 'gemellaw22.StoreRoom': WHATEVER THE INPUT: true; the input reads as it did. -/
def storeRoomSpec : ChangeSpec := { name := "storeRoom", fn := fun _ => fun
  | [d1, d2, d3] => { results := [.lit (.bool true)], args := [d1, d2, d3] }
  | _ => none }
def storeRoomRow : OpenClaim := { program := "ytlahgihjjabgmaa", sum := "16630c97cf305d93a5646fde3697a5a35f192a599b5dc269e83986fc2e453e5e", func := "gemel/gemellaw22.StoreRoom", spec := "storeRoom", unfollowed := true, recurses := true, apart := false }
def StoreRoomSaid : Prop := storeRoomRow.holds Try.pinned (OpenSpec.ofChange storeRoomSpec)

/-- ITS FALSE NEIGHBOUR: 'it returns false'. Refute it at one input. -/
def storeRoomWrong : ChangeSpec := { name := "storeRoom", fn := fun _ => fun
  | [d1, d2, d3] => { results := [.lit (.bool false)], args := [d1, d2, d3] }
  | _ => none }
def StoreRoomWrongFalsely : Prop := storeRoomRow.holds Try.pinned (OpenSpec.ofChange storeRoomWrong)

/-- 'gemellaw22.StoreRows': WHATEVER THE INPUT: true; the input reads as it did. -/
def storeRowsSpec : ChangeSpec := { name := "storeRows", fn := fun _ => fun
  | [d1, d2] => { results := [.lit (.bool true)], args := [d1, d2] }
  | _ => none }
def storeRowsRow : OpenClaim := { program := "ytlahgihjjabgmaa", sum := "16630c97cf305d93a5646fde3697a5a35f192a599b5dc269e83986fc2e453e5e", func := "gemel/gemellaw22.StoreRows", spec := "storeRows", unfollowed := true, recurses := true, apart := false }
def StoreRowsSaid : Prop := storeRowsRow.holds Try.pinned (OpenSpec.ofChange storeRowsSpec)

/-- ITS FALSE NEIGHBOUR: 'it returns false'. Refute it at one input. -/
def storeRowsWrong : ChangeSpec := { name := "storeRows", fn := fun _ => fun
  | [d1, d2] => { results := [.lit (.bool false)], args := [d1, d2] }
  | _ => none }
def StoreRowsWrongFalsely : Prop := storeRowsRow.holds Try.pinned (OpenSpec.ofChange storeRowsWrong)

/- THE SECOND FORM. 'bulk': how many values and letters a reading holds, each counted each time it is reached (what is shared counts as often as it is met; a slice's spare places count too). A statement '..UptoSaid' is the law's where the arguments, and the package variables that the reading takes, are together of bulk at most 1048576: NARROWER than '..Said'. Prove '..Said' where nothing that the law and all that it calls make is longer than what came in: it says more and counts as full. Else prove '..UptoSaid'. A law counts once. -/
mutual
def uptoBulk {H : Type} : DataW H → Nat
  | .lit (.string bytes) => bytes.length + 1
  | .lit _ => 1
  | .nil => 1
  | .ptr d => uptoBulk d + 1
  | .slice elems spare => uptoBulkAll elems + uptoBulkAll spare + 1
  | .agg parts => uptoBulkAll parts + 1
  | .iface _ d => uptoBulk d + 1
  | .map entries => uptoBulkEntries entries + 1
  | .held _ => 1
def uptoBulkAll {H : Type} : List (DataW H) → Nat
  | [] => 0
  | d :: r => uptoBulk d + uptoBulkAll r
def uptoBulkEntries {H : Type} : List (Lit × DataW H) → Nat
  | [] => 0
  | x :: r => uptoBulkEntry x + uptoBulkEntries r
def uptoBulkEntry {H : Type} : Lit × DataW H → Nat
  | (.string bytes, d) => bytes.length + uptoBulk d + 1
  | (_, d) => uptoBulk d + 1
 end
def uptoSmall : (H : Type) → List (DataW H) → Bool := fun _ ds => decide (uptoBulkAll ds ≤ 1048576)
def OpenSpec.upto (s : _root_.Go.ChangeSpec) : _root_.Go.OpenSpec := { _root_.Go.OpenSpec.ofChange s with cond := some uptoSmall }

/-- 'gemellaw8.DiskLasts', WHERE WHAT IT READS IS OF BULK AT MOST 1048576: true; the input reads as it did. -/
def diskLastsUptoRow : OpenClaim := { program := "ytlahgihjjabgmaa", sum := "16630c97cf305d93a5646fde3697a5a35f192a599b5dc269e83986fc2e453e5e", func := "gemel/gemellaw8.DiskLasts", spec := "diskLasts", unfollowed := true, recurses := true, apart := false, narrowed := true }
def DiskLastsUptoSaid : Prop := diskLastsUptoRow.holds Try.pinned (OpenSpec.upto diskLastsSpec)

/-- 'gemellaw8.DiskOrder', WHERE WHAT IT READS IS OF BULK AT MOST 1048576: true; the input reads as it did. -/
def diskOrderUptoRow : OpenClaim := { program := "ytlahgihjjabgmaa", sum := "16630c97cf305d93a5646fde3697a5a35f192a599b5dc269e83986fc2e453e5e", func := "gemel/gemellaw8.DiskOrder", spec := "diskOrder", unfollowed := true, recurses := true, apart := false, narrowed := true }
def DiskOrderUptoSaid : Prop := diskOrderUptoRow.holds Try.pinned (OpenSpec.upto diskOrderSpec)

/-- 'gemellaw11.TwinBytes', WHERE WHAT IT READS IS OF BULK AT MOST 1048576: true; the input reads as it did. -/
def twinBytesUptoRow : OpenClaim := { program := "ytlahgihjjabgmaa", sum := "16630c97cf305d93a5646fde3697a5a35f192a599b5dc269e83986fc2e453e5e", func := "gemel/gemellaw11.TwinBytes", spec := "twinBytes", unfollowed := true, recurses := true, apart := false, narrowed := true }
def TwinBytesUptoSaid : Prop := twinBytesUptoRow.holds Try.pinned (OpenSpec.upto twinBytesSpec)

/-- 'gemellaw11.TwinBlank', WHERE WHAT IT READS IS OF BULK AT MOST 1048576: true; the input reads as it did. -/
def twinBlankUptoRow : OpenClaim := { program := "ytlahgihjjabgmaa", sum := "16630c97cf305d93a5646fde3697a5a35f192a599b5dc269e83986fc2e453e5e", func := "gemel/gemellaw11.TwinBlank", spec := "twinBlank", unfollowed := true, recurses := true, apart := false, narrowed := true }
def TwinBlankUptoSaid : Prop := twinBlankUptoRow.holds Try.pinned (OpenSpec.upto twinBlankSpec)

/-- 'gemellaw12.RingLives', WHERE WHAT IT READS IS OF BULK AT MOST 1048576: true; the input reads as it did. -/
def ringLivesUptoRow : OpenClaim := { program := "ytlahgihjjabgmaa", sum := "16630c97cf305d93a5646fde3697a5a35f192a599b5dc269e83986fc2e453e5e", func := "gemel/gemellaw12.RingLives", spec := "ringLives", unfollowed := true, recurses := true, apart := false, narrowed := true }
def RingLivesUptoSaid : Prop := ringLivesUptoRow.holds Try.pinned (OpenSpec.upto ringLivesSpec)

/-- 'gemellaw12.RingLong', WHERE WHAT IT READS IS OF BULK AT MOST 1048576: true; the input reads as it did. -/
def ringLongUptoRow : OpenClaim := { program := "ytlahgihjjabgmaa", sum := "16630c97cf305d93a5646fde3697a5a35f192a599b5dc269e83986fc2e453e5e", func := "gemel/gemellaw12.RingLong", spec := "ringLong", unfollowed := true, recurses := true, apart := false, narrowed := true }
def RingLongUptoSaid : Prop := ringLongUptoRow.holds Try.pinned (OpenSpec.upto ringLongSpec)

/-- 'gemellaw12.RingFull', WHERE WHAT IT READS IS OF BULK AT MOST 1048576: true; the input reads as it did. -/
def ringFullUptoRow : OpenClaim := { program := "ytlahgihjjabgmaa", sum := "16630c97cf305d93a5646fde3697a5a35f192a599b5dc269e83986fc2e453e5e", func := "gemel/gemellaw12.RingFull", spec := "ringFull", unfollowed := true, recurses := true, apart := false, narrowed := true }
def RingFullUptoSaid : Prop := ringFullUptoRow.holds Try.pinned (OpenSpec.upto ringFullSpec)

/-- 'gemellaw23.WitnessBytes', WHERE WHAT IT READS IS OF BULK AT MOST 1048576: true; the input reads as it did. -/
def witnessBytesUptoRow : OpenClaim := { program := "ytlahgihjjabgmaa", sum := "16630c97cf305d93a5646fde3697a5a35f192a599b5dc269e83986fc2e453e5e", func := "gemel/gemellaw23.WitnessBytes", spec := "witnessBytes", unfollowed := true, recurses := true, apart := false, narrowed := true }
def WitnessBytesUptoSaid : Prop := witnessBytesUptoRow.holds Try.pinned (OpenSpec.upto witnessBytesSpec)

/-- 'gemellaw23.WitnessRaces', WHERE WHAT IT READS IS OF BULK AT MOST 1048576: true; the input reads as it did. -/
def witnessRacesUptoRow : OpenClaim := { program := "ytlahgihjjabgmaa", sum := "16630c97cf305d93a5646fde3697a5a35f192a599b5dc269e83986fc2e453e5e", func := "gemel/gemellaw23.WitnessRaces", spec := "witnessRaces", unfollowed := true, recurses := true, apart := false, narrowed := true }
def WitnessRacesUptoSaid : Prop := witnessRacesUptoRow.holds Try.pinned (OpenSpec.upto witnessRacesSpec)

/-- 'gemellaw23.WitnessCrash', WHERE WHAT IT READS IS OF BULK AT MOST 1048576: true; the input reads as it did. -/
def witnessCrashUptoRow : OpenClaim := { program := "ytlahgihjjabgmaa", sum := "16630c97cf305d93a5646fde3697a5a35f192a599b5dc269e83986fc2e453e5e", func := "gemel/gemellaw23.WitnessCrash", spec := "witnessCrash", unfollowed := true, recurses := true, apart := false, narrowed := true }
def WitnessCrashUptoSaid : Prop := witnessCrashUptoRow.holds Try.pinned (OpenSpec.upto witnessCrashSpec)

/-- 'gemellaw22.StoreRoom', WHERE WHAT IT READS IS OF BULK AT MOST 1048576: true; the input reads as it did. -/
def storeRoomUptoRow : OpenClaim := { program := "ytlahgihjjabgmaa", sum := "16630c97cf305d93a5646fde3697a5a35f192a599b5dc269e83986fc2e453e5e", func := "gemel/gemellaw22.StoreRoom", spec := "storeRoom", unfollowed := true, recurses := true, apart := false, narrowed := true }
def StoreRoomUptoSaid : Prop := storeRoomUptoRow.holds Try.pinned (OpenSpec.upto storeRoomSpec)

/-- 'gemellaw22.StoreRows', WHERE WHAT IT READS IS OF BULK AT MOST 1048576: true; the input reads as it did. -/
def storeRowsUptoRow : OpenClaim := { program := "ytlahgihjjabgmaa", sum := "16630c97cf305d93a5646fde3697a5a35f192a599b5dc269e83986fc2e453e5e", func := "gemel/gemellaw22.StoreRows", spec := "storeRows", unfollowed := true, recurses := true, apart := false, narrowed := true }
def StoreRowsUptoSaid : Prop := storeRowsUptoRow.holds Try.pinned (OpenSpec.upto storeRowsSpec)

end Rows
end Go.Proofs.Ytlahgihjjabgmaa
