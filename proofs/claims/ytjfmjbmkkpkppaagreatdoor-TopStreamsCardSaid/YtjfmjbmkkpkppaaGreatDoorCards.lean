/-
  DERIVED. GIVEN WITH THE SEED: THE CARDS: each row of YtjfmjbmkkpkppaaGreatDoorRows.lean that lists a variable, with what it lists TIED to the program's text (the seventh form; the later family's looks); each row that meets fmt, with fmt's text TOLD by the authors' own Lean function (tested against real Go, not proved from fmt's source: count such statements apart). THE CARD IS WHAT COUNTS. Prove the row's statement (the work); the ties are given (YtjfmjbmkkpkppaaGreatDoorTie.lean); close each card by the builder's one call (the guide's Derived/Test/ToyasCard.lean, 'card_holds'). Laid BY PROGRAM, IN A SANDBOX (cutbox-door.mjs). By AI agents, Wed Nov 11 2026. No macro, syntax, notation, axiom, sorry.
-/
import Derived.Test.YtjfmjbmkkpkppaaGreatDoorRows
import GoSem.ClaimSeven
namespace Go.Proofs.YtjfmjbmkkpkppaaGreatDoor
namespace Rows

/-- THE TIED CARD OF 'gemeltop.TopBytes'. -/
def topBytesCard : Claim7 := { stood := { row := topBytesRow, standIns := [], harness := (true, "2bc53ffb72ba7484a906419896487cccd2086cb946e6365c6a9b83760b2b408c"), looks := true }, kinds := [], alts := [], laidByText := true, laidKinds := [.data, .data, .data, .data, .sentinel, .sentinel, .pinned], laidTests := true, laidLooks := .later }
def TopBytesCardSaid : Prop := Claim7.holds Tryz.pinned (.plain (OpenSpec.ofChange topBytesSpec)) topBytesCard

/-- THE TIED CARD OF 'gemeltop.TopSense'. -/
def topSenseCard : Claim7 := { stood := { row := topSenseRow, standIns := [], harness := (true, "2bc53ffb72ba7484a906419896487cccd2086cb946e6365c6a9b83760b2b408c"), looks := true }, kinds := [], alts := [], laidByText := true, laidKinds := [.data, .data, .data, .data, .sentinel, .sentinel, .pinned], laidTests := true, laidLooks := .later }
def TopSenseCardSaid : Prop := Claim7.holds Tryz.pinned (.plain (OpenSpec.ofChange topSenseSpec)) topSenseCard

/-- THE TIED CARD OF 'gemeltop.TopStreams'. -/
def topStreamsCard : Claim7 := { stood := { row := topStreamsRow, standIns := [], harness := (true, "2bc53ffb72ba7484a906419896487cccd2086cb946e6365c6a9b83760b2b408c"), looks := true }, kinds := [], alts := [], laidByText := true, laidKinds := [.data, .data, .data, .data, .sentinel, .sentinel, .pinned], laidTests := true, laidLooks := .later }
def TopStreamsCardSaid : Prop := Claim7.holds Tryz.pinned (.plain (OpenSpec.ofChange topStreamsSpec)) topStreamsCard

/-- THE SECOND FORM's CARD OF 'gemeltop.TopBytes'. -/
def topBytesUptoCard : Claim7 := { stood := { row := topBytesUptoRow, standIns := [], harness := (true, "2bc53ffb72ba7484a906419896487cccd2086cb946e6365c6a9b83760b2b408c"), looks := true }, kinds := [], alts := [], laidByText := true, laidKinds := [.data, .data, .data, .data, .sentinel, .sentinel, .pinned], laidTests := true, laidLooks := .later }
def TopBytesUptoCardSaid : Prop := Claim7.holds Tryz.pinned (.plain (OpenSpec.upto topBytesSpec)) topBytesUptoCard

/-- THE SECOND FORM's CARD OF 'gemeltop.TopSense'. -/
def topSenseUptoCard : Claim7 := { stood := { row := topSenseUptoRow, standIns := [], harness := (true, "2bc53ffb72ba7484a906419896487cccd2086cb946e6365c6a9b83760b2b408c"), looks := true }, kinds := [], alts := [], laidByText := true, laidKinds := [.data, .data, .data, .data, .sentinel, .sentinel, .pinned], laidTests := true, laidLooks := .later }
def TopSenseUptoCardSaid : Prop := Claim7.holds Tryz.pinned (.plain (OpenSpec.upto topSenseSpec)) topSenseUptoCard

/-- THE SECOND FORM's CARD OF 'gemeltop.TopStreams'. -/
def topStreamsUptoCard : Claim7 := { stood := { row := topStreamsUptoRow, standIns := [], harness := (true, "2bc53ffb72ba7484a906419896487cccd2086cb946e6365c6a9b83760b2b408c"), looks := true }, kinds := [], alts := [], laidByText := true, laidKinds := [.data, .data, .data, .data, .sentinel, .sentinel, .pinned], laidTests := true, laidLooks := .later }
def TopStreamsUptoCardSaid : Prop := Claim7.holds Tryz.pinned (.plain (OpenSpec.upto topStreamsSpec)) topStreamsUptoCard
end Rows
end Go.Proofs.YtjfmjbmkkpkppaaGreatDoor
