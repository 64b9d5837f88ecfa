/-
  DERIVED. GIVEN WITH THE SEED: THE CARDS: each row of YtbhlffhfmgnleaaGreatDoorRows.lean that lists a variable, with what it lists TIED to the program's text (the seventh form; the later family's looks); each row that meets fmt, with fmt's text TOLD by the authors' own Lean function (tested against real Go, not proved from fmt's source: count such statements apart). THE CARD IS WHAT COUNTS. Prove the row's statement (the work); the ties are given (YtbhlffhfmgnleaaGreatDoorTie.lean); close each card by the builder's one call (the guide's Derived/Test/ToyasCard.lean, 'card_holds'). Laid BY PROGRAM, IN A SANDBOX (cutbox-door.mjs). By AI agents, Wed Nov 11 2026. No macro, syntax, notation, axiom, sorry.
-/
import Derived.Test.YtbhlffhfmgnleaaGreatDoorRows
import GoSem.ClaimSeven
namespace Go.Proofs.YtbhlffhfmgnleaaGreatDoor
namespace Rows

/-- THE TIED CARD OF 'spilelaw58.OfficerDraws'. -/
def officerDrawsCard : Claim7 := { stood := { row := officerDrawsRow, standIns := [], harness := (true, "d3add0dcd46103b163326cb7c1cdae426d4972ad0d587111c37bbfbb277934e8"), looks := true }, kinds := [], alts := [], laidByText := true, laidKinds := [.data, .data, .data, .data, .data, .data], laidTests := true, laidLooks := .later }
def OfficerDrawsCardSaid : Prop := Claim7.holds Tryz.pinned (.plain (OpenSpec.ofChange officerDrawsSpec)) officerDrawsCard

/-- THE TIED CARD OF 'spilelaw58.OfficerBound'. -/
def officerBoundCard : Claim7 := { stood := { row := officerBoundRow, standIns := [], harness := (true, "d3add0dcd46103b163326cb7c1cdae426d4972ad0d587111c37bbfbb277934e8"), looks := true }, kinds := [], alts := [], laidByText := true, laidKinds := [.data, .data, .data, .data, .data, .data], laidTests := true, laidLooks := .later }
def OfficerBoundCardSaid : Prop := Claim7.holds Tryz.pinned (.plain (OpenSpec.ofChange officerBoundSpec)) officerBoundCard

/-- THE TIED CARD OF 'spilelaw58.OfficerSamples'. -/
def officerSamplesCard : Claim7 := { stood := { row := officerSamplesRow, standIns := [], harness := (true, "d3add0dcd46103b163326cb7c1cdae426d4972ad0d587111c37bbfbb277934e8"), looks := true }, kinds := [], alts := [], laidByText := true, laidKinds := [.data, .data, .data, .data, .data, .data], laidTests := true, laidLooks := .later }
def OfficerSamplesCardSaid : Prop := Claim7.holds Tryz.pinned (.plain (OpenSpec.ofChange officerSamplesSpec)) officerSamplesCard

/-- THE SECOND FORM's CARD OF 'spilelaw58.OfficerDraws'. -/
def officerDrawsUptoCard : Claim7 := { stood := { row := officerDrawsUptoRow, standIns := [], harness := (true, "d3add0dcd46103b163326cb7c1cdae426d4972ad0d587111c37bbfbb277934e8"), looks := true }, kinds := [], alts := [], laidByText := true, laidKinds := [.data, .data, .data, .data, .data, .data], laidTests := true, laidLooks := .later }
def OfficerDrawsUptoCardSaid : Prop := Claim7.holds Tryz.pinned (.plain (OpenSpec.upto officerDrawsSpec)) officerDrawsUptoCard

/-- THE SECOND FORM's CARD OF 'spilelaw58.OfficerBound'. -/
def officerBoundUptoCard : Claim7 := { stood := { row := officerBoundUptoRow, standIns := [], harness := (true, "d3add0dcd46103b163326cb7c1cdae426d4972ad0d587111c37bbfbb277934e8"), looks := true }, kinds := [], alts := [], laidByText := true, laidKinds := [.data, .data, .data, .data, .data, .data], laidTests := true, laidLooks := .later }
def OfficerBoundUptoCardSaid : Prop := Claim7.holds Tryz.pinned (.plain (OpenSpec.upto officerBoundSpec)) officerBoundUptoCard

/-- THE SECOND FORM's CARD OF 'spilelaw58.OfficerSamples'. -/
def officerSamplesUptoCard : Claim7 := { stood := { row := officerSamplesUptoRow, standIns := [], harness := (true, "d3add0dcd46103b163326cb7c1cdae426d4972ad0d587111c37bbfbb277934e8"), looks := true }, kinds := [], alts := [], laidByText := true, laidKinds := [.data, .data, .data, .data, .data, .data], laidTests := true, laidLooks := .later }
def OfficerSamplesUptoCardSaid : Prop := Claim7.holds Tryz.pinned (.plain (OpenSpec.upto officerSamplesSpec)) officerSamplesUptoCard
end Rows
end Go.Proofs.YtbhlffhfmgnleaaGreatDoor
