/-
  DERIVED. GIVEN WITH THE SEED: THE CARDS: each row of YtagpldkgkchfcaaDoorRows.lean that lists a variable, with what it lists TIED to the program's text (the seventh form; the later family's looks); each row that meets fmt, with fmt's text TOLD by the authors' own Lean function (tested against real Go, not proved from fmt's source: count such statements apart). THE CARD IS WHAT COUNTS. Prove the row's statement (the work); the ties are given (YtagpldkgkchfcaaDoorTie.lean); close each card by the builder's one call (the guide's Derived/Test/ToyasCard.lean, 'card_holds'). Laid BY PROGRAM, IN A SANDBOX (cutbox-door.mjs). By AI agents, Wed Nov 11 2026. No macro, syntax, notation, axiom, sorry.
-/
import Derived.Test.YtagpldkgkchfcaaDoorRows
import GoSem.ClaimSeven
namespace Go.Proofs.YtagpldkgkchfcaaDoor
namespace Rows

/-- THE TIED CARD OF 'windrowlaw25.TextReads'. -/
def textReadsCard : Claim7 := { stood := { row := textReadsRow, standIns := [], harness := (true, "53f612af6e7b79b3694e580dd0ab21747c91e96dcf473b3538d10277066de77f"), looks := true }, kinds := [], alts := [], laidByText := true, laidKinds := [.data, .data, .data, .data, .sentinel, .sentinel, .pinned], laidTests := true, laidLooks := .later }
def TextReadsCardSaid : Prop := Claim7.holds Tryd.pinned (.plain (OpenSpec.ofChange textReadsSpec)) textReadsCard

/-- THE TIED CARD OF 'windrowlaw25.TextLines'. -/
def textLinesCard : Claim7 := { stood := { row := textLinesRow, standIns := [], harness := (true, "53f612af6e7b79b3694e580dd0ab21747c91e96dcf473b3538d10277066de77f"), looks := true }, kinds := [], alts := [], laidByText := true, laidKinds := [.data, .data, .data, .data, .sentinel, .sentinel, .pinned], laidTests := true, laidLooks := .later }
def TextLinesCardSaid : Prop := Claim7.holds Tryd.pinned (.plain (OpenSpec.ofChange textLinesSpec)) textLinesCard

/-- THE TIED CARD OF 'windrowlaw25.TextPlains'. -/
def textPlainsCard : Claim7 := { stood := { row := textPlainsRow, standIns := [], harness := (true, "53f612af6e7b79b3694e580dd0ab21747c91e96dcf473b3538d10277066de77f"), looks := true }, kinds := [], alts := [], laidByText := true, laidKinds := [.data, .data, .data, .data, .sentinel, .sentinel, .pinned], laidTests := true, laidLooks := .later }
def TextPlainsCardSaid : Prop := Claim7.holds Tryd.pinned (.plain (OpenSpec.ofChange textPlainsSpec)) textPlainsCard

/-- THE TIED CARD OF 'windrowlaw25.TextPrints'. -/
def textPrintsCard : Claim7 := { stood := { row := textPrintsRow, standIns := [], harness := (true, "53f612af6e7b79b3694e580dd0ab21747c91e96dcf473b3538d10277066de77f"), looks := true }, kinds := [], alts := [], laidByText := true, laidKinds := [.data, .data, .data, .data, .sentinel, .sentinel, .pinned], laidTests := true, laidLooks := .later }
def TextPrintsCardSaid : Prop := Claim7.holds Tryd.pinned (.plain (OpenSpec.ofChange textPrintsSpec)) textPrintsCard

/-- THE TIED CARD OF 'windrowlaw25.TextBack'. -/
def textBackCard : Claim7 := { stood := { row := textBackRow, standIns := [], harness := (true, "53f612af6e7b79b3694e580dd0ab21747c91e96dcf473b3538d10277066de77f"), looks := true }, kinds := [], alts := [], laidByText := true, laidKinds := [.data, .data, .data, .data, .sentinel, .sentinel, .pinned], laidTests := true, laidLooks := .later }
def TextBackCardSaid : Prop := Claim7.holds Tryd.pinned (.plain (OpenSpec.ofChange textBackSpec)) textBackCard

/-- THE TIED CARD OF 'windrowlaw25.TextKeeps'. -/
def textKeepsCard : Claim7 := { stood := { row := textKeepsRow, standIns := [], harness := (true, "53f612af6e7b79b3694e580dd0ab21747c91e96dcf473b3538d10277066de77f"), looks := true }, kinds := [], alts := [], laidByText := true, laidKinds := [.data, .data, .data, .data, .sentinel, .sentinel, .pinned], laidTests := true, laidLooks := .later }
def TextKeepsCardSaid : Prop := Claim7.holds Tryd.pinned (.plain (OpenSpec.ofChange textKeepsSpec)) textKeepsCard

/-- THE TIED CARD OF 'windrowlaw25.TextJoin'. -/
def textJoinCard : Claim7 := { stood := { row := textJoinRow, standIns := [], harness := (true, "53f612af6e7b79b3694e580dd0ab21747c91e96dcf473b3538d10277066de77f"), looks := true }, kinds := [], alts := [], laidByText := true, laidKinds := [.data, .data, .data, .data, .sentinel, .sentinel, .pinned], laidTests := true, laidLooks := .later }
def TextJoinCardSaid : Prop := Claim7.holds Tryd.pinned (.plain (OpenSpec.ofChange textJoinSpec)) textJoinCard

/-- THE SECOND FORM's CARD OF 'windrowlaw25.TextReads'. -/
def textReadsUptoCard : Claim7 := { stood := { row := textReadsUptoRow, standIns := [], harness := (true, "53f612af6e7b79b3694e580dd0ab21747c91e96dcf473b3538d10277066de77f"), looks := true }, kinds := [], alts := [], laidByText := true, laidKinds := [.data, .data, .data, .data, .sentinel, .sentinel, .pinned], laidTests := true, laidLooks := .later }
def TextReadsUptoCardSaid : Prop := Claim7.holds Tryd.pinned (.plain (OpenSpec.upto textReadsSpec)) textReadsUptoCard

/-- THE SECOND FORM's CARD OF 'windrowlaw25.TextLines'. -/
def textLinesUptoCard : Claim7 := { stood := { row := textLinesUptoRow, standIns := [], harness := (true, "53f612af6e7b79b3694e580dd0ab21747c91e96dcf473b3538d10277066de77f"), looks := true }, kinds := [], alts := [], laidByText := true, laidKinds := [.data, .data, .data, .data, .sentinel, .sentinel, .pinned], laidTests := true, laidLooks := .later }
def TextLinesUptoCardSaid : Prop := Claim7.holds Tryd.pinned (.plain (OpenSpec.upto textLinesSpec)) textLinesUptoCard

/-- THE SECOND FORM's CARD OF 'windrowlaw25.TextPlains'. -/
def textPlainsUptoCard : Claim7 := { stood := { row := textPlainsUptoRow, standIns := [], harness := (true, "53f612af6e7b79b3694e580dd0ab21747c91e96dcf473b3538d10277066de77f"), looks := true }, kinds := [], alts := [], laidByText := true, laidKinds := [.data, .data, .data, .data, .sentinel, .sentinel, .pinned], laidTests := true, laidLooks := .later }
def TextPlainsUptoCardSaid : Prop := Claim7.holds Tryd.pinned (.plain (OpenSpec.upto textPlainsSpec)) textPlainsUptoCard

/-- THE SECOND FORM's CARD OF 'windrowlaw25.TextPrints'. -/
def textPrintsUptoCard : Claim7 := { stood := { row := textPrintsUptoRow, standIns := [], harness := (true, "53f612af6e7b79b3694e580dd0ab21747c91e96dcf473b3538d10277066de77f"), looks := true }, kinds := [], alts := [], laidByText := true, laidKinds := [.data, .data, .data, .data, .sentinel, .sentinel, .pinned], laidTests := true, laidLooks := .later }
def TextPrintsUptoCardSaid : Prop := Claim7.holds Tryd.pinned (.plain (OpenSpec.upto textPrintsSpec)) textPrintsUptoCard

/-- THE SECOND FORM's CARD OF 'windrowlaw25.TextBack'. -/
def textBackUptoCard : Claim7 := { stood := { row := textBackUptoRow, standIns := [], harness := (true, "53f612af6e7b79b3694e580dd0ab21747c91e96dcf473b3538d10277066de77f"), looks := true }, kinds := [], alts := [], laidByText := true, laidKinds := [.data, .data, .data, .data, .sentinel, .sentinel, .pinned], laidTests := true, laidLooks := .later }
def TextBackUptoCardSaid : Prop := Claim7.holds Tryd.pinned (.plain (OpenSpec.upto textBackSpec)) textBackUptoCard

/-- THE SECOND FORM's CARD OF 'windrowlaw25.TextKeeps'. -/
def textKeepsUptoCard : Claim7 := { stood := { row := textKeepsUptoRow, standIns := [], harness := (true, "53f612af6e7b79b3694e580dd0ab21747c91e96dcf473b3538d10277066de77f"), looks := true }, kinds := [], alts := [], laidByText := true, laidKinds := [.data, .data, .data, .data, .sentinel, .sentinel, .pinned], laidTests := true, laidLooks := .later }
def TextKeepsUptoCardSaid : Prop := Claim7.holds Tryd.pinned (.plain (OpenSpec.upto textKeepsSpec)) textKeepsUptoCard

/-- THE SECOND FORM's CARD OF 'windrowlaw25.TextJoin'. -/
def textJoinUptoCard : Claim7 := { stood := { row := textJoinUptoRow, standIns := [], harness := (true, "53f612af6e7b79b3694e580dd0ab21747c91e96dcf473b3538d10277066de77f"), looks := true }, kinds := [], alts := [], laidByText := true, laidKinds := [.data, .data, .data, .data, .sentinel, .sentinel, .pinned], laidTests := true, laidLooks := .later }
def TextJoinUptoCardSaid : Prop := Claim7.holds Tryd.pinned (.plain (OpenSpec.upto textJoinSpec)) textJoinUptoCard
end Rows
end Go.Proofs.YtagpldkgkchfcaaDoor
