/-
  DERIVED. GIVEN WITH THE SEED: THE CARDS: each row of YtamcehfcjcmpmaaDoorRows.lean that lists a variable, with what it lists TIED to the program's text (the seventh form; the later family's looks); each row that meets fmt, with fmt's text TOLD by the authors' own Lean function (tested against real Go, not proved from fmt's source: count such statements apart). THE CARD IS WHAT COUNTS. Prove the row's statement (the work); the ties are given (YtamcehfcjcmpmaaDoorTie.lean); close each card by the builder's one call (the guide's Derived/Test/ToyasCard.lean, 'card_holds'). Laid BY PROGRAM, IN A SANDBOX (cutbox-door.mjs). By AI agents, Wed Nov 11 2026. No macro, syntax, notation, axiom, sorry.
-/
import Derived.Test.YtamcehfcjcmpmaaDoorRows
import GoSem.ClaimSeven
namespace Go.Proofs.YtamcehfcjcmpmaaDoor
namespace Rows

/-- THE TIED CARD OF 'fuseelaw25.SerialOne'. -/
def serialOneCard : Claim7 := { stood := { row := serialOneRow, standIns := [], harness := (true, "cc50e8a27be894cd3df919902ffc38f10169cd04d1fcc6c20ec3a075c4165222"), looks := false }, kinds := [], alts := [], laidByText := true, laidKinds := [.data, .data, .data], laidTests := true, laidLooks := .later }
def SerialOneCardSaid : Prop := Claim7.holds Tryd.pinned (.plain (OpenSpec.ofChange serialOneSpec)) serialOneCard

/-- THE TIED CARD OF 'fuseelaw25.SerialStale'. -/
def serialStaleCard : Claim7 := { stood := { row := serialStaleRow, standIns := [], harness := (true, "cc50e8a27be894cd3df919902ffc38f10169cd04d1fcc6c20ec3a075c4165222"), looks := false }, kinds := [], alts := [], laidByText := true, laidKinds := [.data, .data, .data], laidTests := true, laidLooks := .later }
def SerialStaleCardSaid : Prop := Claim7.holds Tryd.pinned (.plain (OpenSpec.ofChange serialStaleSpec)) serialStaleCard

/-- THE TIED CARD OF 'fuseelaw25.SerialOpen'. -/
def serialOpenCard : Claim7 := { stood := { row := serialOpenRow, standIns := [], harness := (true, "cc50e8a27be894cd3df919902ffc38f10169cd04d1fcc6c20ec3a075c4165222"), looks := false }, kinds := [], alts := [], laidByText := true, laidKinds := [.data, .data, .data], laidTests := true, laidLooks := .later }
def SerialOpenCardSaid : Prop := Claim7.holds Tryd.pinned (.plain (OpenSpec.ofChange serialOpenSpec)) serialOpenCard

/-- THE TIED CARD OF 'fuseelaw25.SerialMany'. -/
def serialManyCard : Claim7 := { stood := { row := serialManyRow, standIns := [], harness := (true, "cc50e8a27be894cd3df919902ffc38f10169cd04d1fcc6c20ec3a075c4165222"), looks := false }, kinds := [], alts := [], laidByText := true, laidKinds := [.data, .data, .data], laidTests := true, laidLooks := .later }
def SerialManyCardSaid : Prop := Claim7.holds Tryd.pinned (.plain (OpenSpec.ofChange serialManySpec)) serialManyCard

/-- THE TIED CARD OF 'fuseelaw25.SerialApart'. -/
def serialApartCard : Claim7 := { stood := { row := serialApartRow, standIns := [], harness := (true, "cc50e8a27be894cd3df919902ffc38f10169cd04d1fcc6c20ec3a075c4165222"), looks := false }, kinds := [], alts := [], laidByText := true, laidKinds := [.data, .data, .data], laidTests := true, laidLooks := .later }
def SerialApartCardSaid : Prop := Claim7.holds Tryd.pinned (.plain (OpenSpec.ofChange serialApartSpec)) serialApartCard

/-- THE TIED CARD OF 'fuseelaw25.SerialRow'. -/
def serialRowCard : Claim7 := { stood := { row := serialRowRow, standIns := [], harness := (true, "cc50e8a27be894cd3df919902ffc38f10169cd04d1fcc6c20ec3a075c4165222"), looks := false }, kinds := [], alts := [], laidByText := true, laidKinds := [.data, .data, .data], laidTests := true, laidLooks := .later }
def SerialRowCardSaid : Prop := Claim7.holds Tryd.pinned (.plain (OpenSpec.ofChange serialRowSpec)) serialRowCard

/-- THE SECOND FORM's CARD OF 'fuseelaw25.SerialOne'. -/
def serialOneUptoCard : Claim7 := { stood := { row := serialOneUptoRow, standIns := [], harness := (true, "cc50e8a27be894cd3df919902ffc38f10169cd04d1fcc6c20ec3a075c4165222"), looks := false }, kinds := [], alts := [], laidByText := true, laidKinds := [.data, .data, .data], laidTests := true, laidLooks := .later }
def SerialOneUptoCardSaid : Prop := Claim7.holds Tryd.pinned (.plain (OpenSpec.upto serialOneSpec)) serialOneUptoCard

/-- THE SECOND FORM's CARD OF 'fuseelaw25.SerialStale'. -/
def serialStaleUptoCard : Claim7 := { stood := { row := serialStaleUptoRow, standIns := [], harness := (true, "cc50e8a27be894cd3df919902ffc38f10169cd04d1fcc6c20ec3a075c4165222"), looks := false }, kinds := [], alts := [], laidByText := true, laidKinds := [.data, .data, .data], laidTests := true, laidLooks := .later }
def SerialStaleUptoCardSaid : Prop := Claim7.holds Tryd.pinned (.plain (OpenSpec.upto serialStaleSpec)) serialStaleUptoCard

/-- THE SECOND FORM's CARD OF 'fuseelaw25.SerialOpen'. -/
def serialOpenUptoCard : Claim7 := { stood := { row := serialOpenUptoRow, standIns := [], harness := (true, "cc50e8a27be894cd3df919902ffc38f10169cd04d1fcc6c20ec3a075c4165222"), looks := false }, kinds := [], alts := [], laidByText := true, laidKinds := [.data, .data, .data], laidTests := true, laidLooks := .later }
def SerialOpenUptoCardSaid : Prop := Claim7.holds Tryd.pinned (.plain (OpenSpec.upto serialOpenSpec)) serialOpenUptoCard

/-- THE SECOND FORM's CARD OF 'fuseelaw25.SerialMany'. -/
def serialManyUptoCard : Claim7 := { stood := { row := serialManyUptoRow, standIns := [], harness := (true, "cc50e8a27be894cd3df919902ffc38f10169cd04d1fcc6c20ec3a075c4165222"), looks := false }, kinds := [], alts := [], laidByText := true, laidKinds := [.data, .data, .data], laidTests := true, laidLooks := .later }
def SerialManyUptoCardSaid : Prop := Claim7.holds Tryd.pinned (.plain (OpenSpec.upto serialManySpec)) serialManyUptoCard

/-- THE SECOND FORM's CARD OF 'fuseelaw25.SerialApart'. -/
def serialApartUptoCard : Claim7 := { stood := { row := serialApartUptoRow, standIns := [], harness := (true, "cc50e8a27be894cd3df919902ffc38f10169cd04d1fcc6c20ec3a075c4165222"), looks := false }, kinds := [], alts := [], laidByText := true, laidKinds := [.data, .data, .data], laidTests := true, laidLooks := .later }
def SerialApartUptoCardSaid : Prop := Claim7.holds Tryd.pinned (.plain (OpenSpec.upto serialApartSpec)) serialApartUptoCard

/-- THE SECOND FORM's CARD OF 'fuseelaw25.SerialRow'. -/
def serialRowUptoCard : Claim7 := { stood := { row := serialRowUptoRow, standIns := [], harness := (true, "cc50e8a27be894cd3df919902ffc38f10169cd04d1fcc6c20ec3a075c4165222"), looks := false }, kinds := [], alts := [], laidByText := true, laidKinds := [.data, .data, .data], laidTests := true, laidLooks := .later }
def SerialRowUptoCardSaid : Prop := Claim7.holds Tryd.pinned (.plain (OpenSpec.upto serialRowSpec)) serialRowUptoCard
end Rows
end Go.Proofs.YtamcehfcjcmpmaaDoor
