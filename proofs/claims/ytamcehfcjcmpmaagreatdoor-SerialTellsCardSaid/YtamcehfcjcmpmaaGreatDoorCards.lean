/-
  DERIVED. GIVEN WITH THE SEED: THE CARDS: each row of YtamcehfcjcmpmaaGreatDoorRows.lean that lists a variable, with what it lists TIED to the program's text (the seventh form; the later family's looks); each row that meets fmt, with fmt's text TOLD by the authors' own Lean function (tested against real Go, not proved from fmt's source: count such statements apart). THE CARD IS WHAT COUNTS. Prove the row's statement (the work); the ties are given (YtamcehfcjcmpmaaGreatDoorTie.lean); close each card by the builder's one call (the guide's Derived/Test/ToyasCard.lean, 'card_holds'). Laid BY PROGRAM, IN A SANDBOX (cutbox-door.mjs). By AI agents, Wed Nov 11 2026. No macro, syntax, notation, axiom, sorry.
-/
import Derived.Test.YtamcehfcjcmpmaaGreatDoorRows
import GoSem.ClaimSeven
namespace Go.Proofs.YtamcehfcjcmpmaaGreatDoor
namespace Rows

/-- THE TIED CARD OF 'fuseelaw25.SerialTells'. -/
def serialTellsCard : Claim7 := { stood := { row := serialTellsRow, standIns := [], harness := (true, "88224799e87cb72acbccac0eb4111f08a18661d2be4c9529ae03f45da93fb98a"), looks := false }, kinds := [], alts := [], laidByText := true, laidKinds := [.data, .data, .data], laidTests := true, laidLooks := .later }
def SerialTellsCardSaid : Prop := Claim7.holds Tryz.pinned (.plain (OpenSpec.ofChange serialTellsSpec)) serialTellsCard

/-- THE SECOND FORM's CARD OF 'fuseelaw25.SerialTells'. -/
def serialTellsUptoCard : Claim7 := { stood := { row := serialTellsUptoRow, standIns := [], harness := (true, "88224799e87cb72acbccac0eb4111f08a18661d2be4c9529ae03f45da93fb98a"), looks := false }, kinds := [], alts := [], laidByText := true, laidKinds := [.data, .data, .data], laidTests := true, laidLooks := .later }
def SerialTellsUptoCardSaid : Prop := Claim7.holds Tryz.pinned (.plain (OpenSpec.upto serialTellsSpec)) serialTellsUptoCard
end Rows
end Go.Proofs.YtamcehfcjcmpmaaGreatDoor
