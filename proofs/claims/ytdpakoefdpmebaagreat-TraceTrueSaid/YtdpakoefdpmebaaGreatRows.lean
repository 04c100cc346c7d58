/-
  No cell of these rows narrows 'for every input' (looked for: loops, veiled, ifaces, maps, wideKeys, modest, calm, conditions, laid).
  DERIVED. THE GIVEN ROWS OF THIS SEAT. 7 by the template 'for every input the law returns true; each argument reads behind the call as it read before'; 0 by the template 'total and deterministic' (their statements: YtdpakoefdpmebaaGreatTotals.lean).
  GIVEN WITH THE SEED: the statements are not yours to turn. If you find one false, say at which input.
  Laid BY PROGRAM, IN A SANDBOX (cutbox-rows.mjs): the forced cells as the released guide's own fill.sh prints them over the translation 9d8265a9c031751c… (all of the seat's roots in one cut). By AI agents, Wed Nov 11 2026. No macro, syntax, notation, axiom, sorry.
-/
import Derived.Test.YtdpakoefdpmebaaGreatChecked
import GoSem.Claim
import GoSem.ClaimJoined
import GoSem.ClaimMapViews
import Derived.JoinedTies
import Derived.KernelRfl
namespace Go.Proofs.YtdpakoefdpmebaaGreat
/- THE CELL 'sum', in the pinned program and in every row, IS THE sha256 OF THE DUMP (.gsa) THAT YtdpakoefdpmebaaGreatProg.lean LOADS. Nothing in Lean hashes anything: it is a label: what it is worth is what the hold of that sum in a sandbox is worth. -/
noncomputable def Tryz.pinned : Pinned := { name := "ytdpakoefdpmebaagreat", sum := "9d8265a9c031751c5addac2849eceeb05246c578cbb021df1b3482722f7699ca", checked := Tryz.checked }
namespace Rows
def none {H : Type} : Left H := { results := [], args := [] }

/-- 'gemellaw17.UnitBytes': WHATEVER THE INPUT: true; the input reads as it did. -/
def unitBytesSpec : ChangeSpec := { name := "unitBytes", fn := fun _ => fun
  | [d1, d2] => { results := [.lit (.bool true)], args := [d1, d2] }
  | _ => none }
def unitBytesRow : OpenClaim := { program := "ytdpakoefdpmebaagreat", sum := "9d8265a9c031751c5addac2849eceeb05246c578cbb021df1b3482722f7699ca", func := "gemel/gemellaw17.UnitBytes", spec := "unitBytes", unfollowed := true, recurses := true, plainKeys := false, apart := false }
def UnitBytesSaid : Prop := unitBytesRow.holds Tryz.pinned (OpenSpec.ofChange unitBytesSpec)

/-- ITS FALSE NEIGHBOUR: 'it returns false'. Refute it at one input. -/
def unitBytesWrong : ChangeSpec := { name := "unitBytes", fn := fun _ => fun
  | [d1, d2] => { results := [.lit (.bool false)], args := [d1, d2] }
  | _ => none }
def UnitBytesWrongFalsely : Prop := unitBytesRow.holds Tryz.pinned (OpenSpec.ofChange unitBytesWrong)

/-- 'gemellaw17.UnitReads': WHATEVER THE INPUT: true; the input reads as it did. -/
def unitReadsSpec : ChangeSpec := { name := "unitReads", fn := fun _ => fun
  | [d] => { results := [.lit (.bool true)], args := [d] }
  | _ => none }
def unitReadsRow : OpenClaim := { program := "ytdpakoefdpmebaagreat", sum := "9d8265a9c031751c5addac2849eceeb05246c578cbb021df1b3482722f7699ca", func := "gemel/gemellaw17.UnitReads", spec := "unitReads", unfollowed := true, recurses := true, plainKeys := false, apart := false }
def UnitReadsSaid : Prop := unitReadsRow.holds Tryz.pinned (OpenSpec.ofChange unitReadsSpec)

/-- ITS FALSE NEIGHBOUR: 'it returns false'. Refute it at one input. -/
def unitReadsWrong : ChangeSpec := { name := "unitReads", fn := fun _ => fun
  | [d] => { results := [.lit (.bool false)], args := [d] }
  | _ => none }
def UnitReadsWrongFalsely : Prop := unitReadsRow.holds Tryz.pinned (OpenSpec.ofChange unitReadsWrong)

/-- 'gemellaw17.UnitApart': WHATEVER THE INPUT: true; the input reads as it did. -/
def unitApartSpec : ChangeSpec := { name := "unitApart", fn := fun _ => fun
  | [d1, d2, d3, d4] => { results := [.lit (.bool true)], args := [d1, d2, d3, d4] }
  | _ => none }
def unitApartRow : OpenClaim := { program := "ytdpakoefdpmebaagreat", sum := "9d8265a9c031751c5addac2849eceeb05246c578cbb021df1b3482722f7699ca", func := "gemel/gemellaw17.UnitApart", spec := "unitApart", unfollowed := true, recurses := true, plainKeys := false, apart := false }
def UnitApartSaid : Prop := unitApartRow.holds Tryz.pinned (OpenSpec.ofChange unitApartSpec)

/-- ITS FALSE NEIGHBOUR: 'it returns false'. Refute it at one input. -/
def unitApartWrong : ChangeSpec := { name := "unitApart", fn := fun _ => fun
  | [d1, d2, d3, d4] => { results := [.lit (.bool false)], args := [d1, d2, d3, d4] }
  | _ => none }
def UnitApartWrongFalsely : Prop := unitApartRow.holds Tryz.pinned (OpenSpec.ofChange unitApartWrong)

/-- 'gemellaw17.UnitAttends': WHATEVER THE INPUT: true; the input reads as it did. -/
def unitAttendsSpec : ChangeSpec := { name := "unitAttends", fn := fun _ => fun
  | [d1, d2, d3, d4] => { results := [.lit (.bool true)], args := [d1, d2, d3, d4] }
  | _ => none }
def unitAttendsRow : OpenClaim := { program := "ytdpakoefdpmebaagreat", sum := "9d8265a9c031751c5addac2849eceeb05246c578cbb021df1b3482722f7699ca", func := "gemel/gemellaw17.UnitAttends", spec := "unitAttends", unfollowed := true, recurses := true, plainKeys := false, apart := false }
def UnitAttendsSaid : Prop := unitAttendsRow.holds Tryz.pinned (OpenSpec.ofChange unitAttendsSpec)

/-- ITS FALSE NEIGHBOUR: 'it returns false'. Refute it at one input. -/
def unitAttendsWrong : ChangeSpec := { name := "unitAttends", fn := fun _ => fun
  | [d1, d2, d3, d4] => { results := [.lit (.bool false)], args := [d1, d2, d3, d4] }
  | _ => none }
def UnitAttendsWrongFalsely : Prop := unitAttendsRow.holds Tryz.pinned (OpenSpec.ofChange unitAttendsWrong)

/-- 'gemellaw17.UnitTwins': WHATEVER THE INPUT: true; the input reads as it did. -/
def unitTwinsSpec : ChangeSpec := { name := "unitTwins", fn := fun _ => fun
  | [d1, d2, d3] => { results := [.lit (.bool true)], args := [d1, d2, d3] }
  | _ => none }
def unitTwinsRow : OpenClaim := { program := "ytdpakoefdpmebaagreat", sum := "9d8265a9c031751c5addac2849eceeb05246c578cbb021df1b3482722f7699ca", func := "gemel/gemellaw17.UnitTwins", spec := "unitTwins", inPlace := ["maps.clone"], unfollowed := true, recurses := true, plainKeys := false, apart := false }
def UnitTwinsSaid : Prop := unitTwinsRow.holds Tryz.pinned (OpenSpec.ofChange unitTwinsSpec)

/-- ITS FALSE NEIGHBOUR: 'it returns false'. Refute it at one input. -/
def unitTwinsWrong : ChangeSpec := { name := "unitTwins", fn := fun _ => fun
  | [d1, d2, d3] => { results := [.lit (.bool false)], args := [d1, d2, d3] }
  | _ => none }
def UnitTwinsWrongFalsely : Prop := unitTwinsRow.holds Tryz.pinned (OpenSpec.ofChange unitTwinsWrong)

/-- 'gemellaw27.TraceTrue': WHATEVER THE INPUT: true; the input reads as it did. -/
def traceTrueSpec : ChangeSpec := { name := "traceTrue", fn := fun _ => fun
  | [d1, d2, d3] => { results := [.lit (.bool true)], args := [d1, d2, d3] }
  | _ => none }
def traceTrueRow : OpenClaim := { program := "ytdpakoefdpmebaagreat", sum := "9d8265a9c031751c5addac2849eceeb05246c578cbb021df1b3482722f7699ca", func := "gemel/gemellaw27.TraceTrue", spec := "traceTrue", unfollowed := true, recurses := true, plainKeys := false, apart := false }
def TraceTrueSaid : Prop := traceTrueRow.holds Tryz.pinned (OpenSpec.ofChange traceTrueSpec)

/-- ITS FALSE NEIGHBOUR: 'it returns false'. Refute it at one input. -/
def traceTrueWrong : ChangeSpec := { name := "traceTrue", fn := fun _ => fun
  | [d1, d2, d3] => { results := [.lit (.bool false)], args := [d1, d2, d3] }
  | _ => none }
def TraceTrueWrongFalsely : Prop := traceTrueRow.holds Tryz.pinned (OpenSpec.ofChange traceTrueWrong)

/-- 'gemellaw27.TraceFronts': WHATEVER THE INPUT: true; the input reads as it did. -/
def traceFrontsSpec : ChangeSpec := { name := "traceFronts", fn := fun _ => fun
  | [d1, d2, d3] => { results := [.lit (.bool true)], args := [d1, d2, d3] }
  | _ => none }
def traceFrontsRow : OpenClaim := { program := "ytdpakoefdpmebaagreat", sum := "9d8265a9c031751c5addac2849eceeb05246c578cbb021df1b3482722f7699ca", func := "gemel/gemellaw27.TraceFronts", spec := "traceFronts", unfollowed := true, recurses := true, plainKeys := false, apart := false }
def TraceFrontsSaid : Prop := traceFrontsRow.holds Tryz.pinned (OpenSpec.ofChange traceFrontsSpec)

/-- ITS FALSE NEIGHBOUR: 'it returns false'. Refute it at one input. -/
def traceFrontsWrong : ChangeSpec := { name := "traceFronts", fn := fun _ => fun
  | [d1, d2, d3] => { results := [.lit (.bool false)], args := [d1, d2, d3] }
  | _ => none }
def TraceFrontsWrongFalsely : Prop := traceFrontsRow.holds Tryz.pinned (OpenSpec.ofChange traceFrontsWrong)

/- THE SECOND FORM. 'bulk': how many values and letters a reading holds, each counted each time it is reached (what is shared counts as often as it is met; a slice's spare places count too). A statement '..UptoSaid' is the law's where the arguments, and the package variables that the reading takes, are together of bulk at most 1048576: NARROWER than '..Said'. Prove '..Said' where nothing that the law and all that it calls make is longer than what came in: it says more and counts as full. Else prove '..UptoSaid'. A law counts once. -/
mutual
def uptoBulk {H : Type} : DataW H → Nat
  | .lit (.string bytes) => bytes.length + 1
  | .lit _ => 1
  | .nil => 1
  | .ptr d => uptoBulk d + 1
  | .slice elems spare => uptoBulkAll elems + uptoBulkAll spare + 1
  | .agg parts => uptoBulkAll parts + 1
  | .iface _ d => uptoBulk d + 1
  | .map entries => uptoBulkEntries entries + 1
  | .held _ => 1
def uptoBulkAll {H : Type} : List (DataW H) → Nat
  | [] => 0
  | d :: r => uptoBulk d + uptoBulkAll r
def uptoBulkEntries {H : Type} : List (Lit × DataW H) → Nat
  | [] => 0
  | x :: r => uptoBulkEntry x + uptoBulkEntries r
def uptoBulkEntry {H : Type} : Lit × DataW H → Nat
  | (.string bytes, d) => bytes.length + uptoBulk d + 1
  | (_, d) => uptoBulk d + 1
 end
def uptoSmall : (H : Type) → List (DataW H) → Bool := fun _ ds => decide (uptoBulkAll ds ≤ 1048576)
def OpenSpec.upto (s : _root_.Go.ChangeSpec) : _root_.Go.OpenSpec := { _root_.Go.OpenSpec.ofChange s with cond := some uptoSmall }

/-- 'gemellaw17.UnitBytes', WHERE WHAT IT READS IS OF BULK AT MOST 1048576: true; the input reads as it did. -/
def unitBytesUptoRow : OpenClaim := { program := "ytdpakoefdpmebaagreat", sum := "9d8265a9c031751c5addac2849eceeb05246c578cbb021df1b3482722f7699ca", func := "gemel/gemellaw17.UnitBytes", spec := "unitBytes", unfollowed := true, recurses := true, plainKeys := false, apart := false, narrowed := true }
def UnitBytesUptoSaid : Prop := unitBytesUptoRow.holds Tryz.pinned (OpenSpec.upto unitBytesSpec)

/-- 'gemellaw17.UnitReads', WHERE WHAT IT READS IS OF BULK AT MOST 1048576: true; the input reads as it did. -/
def unitReadsUptoRow : OpenClaim := { program := "ytdpakoefdpmebaagreat", sum := "9d8265a9c031751c5addac2849eceeb05246c578cbb021df1b3482722f7699ca", func := "gemel/gemellaw17.UnitReads", spec := "unitReads", unfollowed := true, recurses := true, plainKeys := false, apart := false, narrowed := true }
def UnitReadsUptoSaid : Prop := unitReadsUptoRow.holds Tryz.pinned (OpenSpec.upto unitReadsSpec)

/-- 'gemellaw17.UnitApart', WHERE WHAT IT READS IS OF BULK AT MOST 1048576: true; the input reads as it did. -/
def unitApartUptoRow : OpenClaim := { program := "ytdpakoefdpmebaagreat", sum := "9d8265a9c031751c5addac2849eceeb05246c578cbb021df1b3482722f7699ca", func := "gemel/gemellaw17.UnitApart", spec := "unitApart", unfollowed := true, recurses := true, plainKeys := false, apart := false, narrowed := true }
def UnitApartUptoSaid : Prop := unitApartUptoRow.holds Tryz.pinned (OpenSpec.upto unitApartSpec)

/-- 'gemellaw17.UnitAttends', WHERE WHAT IT READS IS OF BULK AT MOST 1048576: true; the input reads as it did. -/
def unitAttendsUptoRow : OpenClaim := { program := "ytdpakoefdpmebaagreat", sum := "9d8265a9c031751c5addac2849eceeb05246c578cbb021df1b3482722f7699ca", func := "gemel/gemellaw17.UnitAttends", spec := "unitAttends", unfollowed := true, recurses := true, plainKeys := false, apart := false, narrowed := true }
def UnitAttendsUptoSaid : Prop := unitAttendsUptoRow.holds Tryz.pinned (OpenSpec.upto unitAttendsSpec)

/-- 'gemellaw17.UnitTwins', WHERE WHAT IT READS IS OF BULK AT MOST 1048576: true; the input reads as it did. -/
def unitTwinsUptoRow : OpenClaim := { program := "ytdpakoefdpmebaagreat", sum := "9d8265a9c031751c5addac2849eceeb05246c578cbb021df1b3482722f7699ca", func := "gemel/gemellaw17.UnitTwins", spec := "unitTwins", inPlace := ["maps.clone"], unfollowed := true, recurses := true, plainKeys := false, apart := false, narrowed := true }
def UnitTwinsUptoSaid : Prop := unitTwinsUptoRow.holds Tryz.pinned (OpenSpec.upto unitTwinsSpec)

/-- 'gemellaw27.TraceTrue', WHERE WHAT IT READS IS OF BULK AT MOST 1048576: true; the input reads as it did. -/
def traceTrueUptoRow : OpenClaim := { program := "ytdpakoefdpmebaagreat", sum := "9d8265a9c031751c5addac2849eceeb05246c578cbb021df1b3482722f7699ca", func := "gemel/gemellaw27.TraceTrue", spec := "traceTrue", unfollowed := true, recurses := true, plainKeys := false, apart := false, narrowed := true }
def TraceTrueUptoSaid : Prop := traceTrueUptoRow.holds Tryz.pinned (OpenSpec.upto traceTrueSpec)

/-- 'gemellaw27.TraceFronts', WHERE WHAT IT READS IS OF BULK AT MOST 1048576: true; the input reads as it did. -/
def traceFrontsUptoRow : OpenClaim := { program := "ytdpakoefdpmebaagreat", sum := "9d8265a9c031751c5addac2849eceeb05246c578cbb021df1b3482722f7699ca", func := "gemel/gemellaw27.TraceFronts", spec := "traceFronts", unfollowed := true, recurses := true, plainKeys := false, apart := false, narrowed := true }
def TraceFrontsUptoSaid : Prop := traceFrontsUptoRow.holds Tryz.pinned (OpenSpec.upto traceFrontsSpec)

end Rows
end Go.Proofs.YtdpakoefdpmebaaGreat
