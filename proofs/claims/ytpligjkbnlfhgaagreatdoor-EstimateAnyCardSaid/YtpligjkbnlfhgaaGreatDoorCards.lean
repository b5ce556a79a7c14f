/-
  DERIVED. GIVEN WITH THE SEED: THE CARDS: each row of YtpligjkbnlfhgaaGreatDoorRows.lean that lists a variable, with what it lists TIED to the program's text (the seventh form; the later family's looks); each row that meets fmt, with fmt's text TOLD by the authors' own Lean function (tested against real Go, not proved from fmt's source: count such statements apart). THE CARD IS WHAT COUNTS. Prove the row's statement (the work); the ties are given (YtpligjkbnlfhgaaGreatDoorTie.lean); close each card by the builder's one call (the guide's Derived/Test/ToyasCard.lean, 'card_holds'). Laid BY PROGRAM, IN A SANDBOX (cutbox-door.mjs). By AI agents, Wed Nov 11 2026. No macro, syntax, notation, axiom, sorry.
-/
import Derived.Test.YtpligjkbnlfhgaaGreatDoorRows
import GoSem.ClaimSeven
namespace Go.Proofs.YtpligjkbnlfhgaaGreatDoor
namespace Rows

/-- THE TIED CARD OF 'flagstonelaw38.EstimateBands'. -/
def estimateBandsCard : Claim7 := { stood := { row := estimateBandsRow, standIns := [], harness := (true, "ccf1df0daf7037856cb30184ca068f0d44759d9f055f393fa0c85f047e08e5ee"), looks := false }, kinds := [], alts := [], laidByText := true, laidKinds := [.data, .pinned], laidTests := true, laidLooks := .later }
def EstimateBandsCardSaid : Prop := Claim7.holds Tryz.pinned (.plain (OpenSpec.ofChange estimateBandsSpec)) estimateBandsCard

/-- THE TIED CARD OF 'flagstonelaw38.EstimateAny'. -/
def estimateAnyCard : Claim7 := { stood := { row := estimateAnyRow, standIns := [], harness := (true, "ccf1df0daf7037856cb30184ca068f0d44759d9f055f393fa0c85f047e08e5ee"), looks := false }, kinds := [], alts := [], laidByText := true, laidKinds := [.data, .pinned], laidTests := true, laidLooks := .later }
def EstimateAnyCardSaid : Prop := Claim7.holds Tryz.pinned (.plain (OpenSpec.ofChange estimateAnySpec)) estimateAnyCard

/-- THE TIED CARD OF 'flagstonelaw38.EstimateTells'. -/
def estimateTellsCard : Claim7 := { stood := { row := estimateTellsRow, standIns := [], harness := (true, "ccf1df0daf7037856cb30184ca068f0d44759d9f055f393fa0c85f047e08e5ee"), looks := false }, kinds := [], alts := [], laidByText := true, laidKinds := [.data, .pinned], laidTests := true, laidLooks := .later }
def EstimateTellsCardSaid : Prop := Claim7.holds Tryz.pinned (.plain (OpenSpec.ofChange estimateTellsSpec)) estimateTellsCard

/-- THE SECOND FORM's CARD OF 'flagstonelaw38.EstimateBands'. -/
def estimateBandsUptoCard : Claim7 := { stood := { row := estimateBandsUptoRow, standIns := [], harness := (true, "ccf1df0daf7037856cb30184ca068f0d44759d9f055f393fa0c85f047e08e5ee"), looks := false }, kinds := [], alts := [], laidByText := true, laidKinds := [.data, .pinned], laidTests := true, laidLooks := .later }
def EstimateBandsUptoCardSaid : Prop := Claim7.holds Tryz.pinned (.plain (OpenSpec.upto estimateBandsSpec)) estimateBandsUptoCard

/-- THE SECOND FORM's CARD OF 'flagstonelaw38.EstimateAny'. -/
def estimateAnyUptoCard : Claim7 := { stood := { row := estimateAnyUptoRow, standIns := [], harness := (true, "ccf1df0daf7037856cb30184ca068f0d44759d9f055f393fa0c85f047e08e5ee"), looks := false }, kinds := [], alts := [], laidByText := true, laidKinds := [.data, .pinned], laidTests := true, laidLooks := .later }
def EstimateAnyUptoCardSaid : Prop := Claim7.holds Tryz.pinned (.plain (OpenSpec.upto estimateAnySpec)) estimateAnyUptoCard

/-- THE SECOND FORM's CARD OF 'flagstonelaw38.EstimateTells'. -/
def estimateTellsUptoCard : Claim7 := { stood := { row := estimateTellsUptoRow, standIns := [], harness := (true, "ccf1df0daf7037856cb30184ca068f0d44759d9f055f393fa0c85f047e08e5ee"), looks := false }, kinds := [], alts := [], laidByText := true, laidKinds := [.data, .pinned], laidTests := true, laidLooks := .later }
def EstimateTellsUptoCardSaid : Prop := Claim7.holds Tryz.pinned (.plain (OpenSpec.upto estimateTellsSpec)) estimateTellsUptoCard
end Rows
end Go.Proofs.YtpligjkbnlfhgaaGreatDoor
