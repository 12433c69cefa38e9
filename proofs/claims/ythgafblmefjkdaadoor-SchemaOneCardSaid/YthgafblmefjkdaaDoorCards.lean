/-
  DERIVED. GIVEN WITH THE SEED: THE CARDS: each row of YthgafblmefjkdaaDoorRows.lean that lists a variable, with what it lists TIED to the program's text (the seventh form; the later family's looks); each row that meets fmt, with fmt's text TOLD by the authors' own Lean function (tested against real Go, not proved from fmt's source: count such statements apart). THE CARD IS WHAT COUNTS. Prove the row's statement (the work); the ties are given (YthgafblmefjkdaaDoorTie.lean); close each card by the builder's one call (the guide's Derived/Test/ToyasCard.lean, 'card_holds'). Laid BY PROGRAM, IN A SANDBOX (cutbox-door.mjs). By AI agents, Wed Nov 11 2026. No macro, syntax, notation, axiom, sorry.
-/
import Derived.Test.YthgafblmefjkdaaDoorRows
import GoSem.ClaimSeven
namespace Go.Proofs.YthgafblmefjkdaaDoor
namespace Rows

/-- THE TIED CARD OF 'columbarylaw10.SchemaNames'. -/
def schemaNamesCard : Claim7 := { stood := { row := schemaNamesRow, standIns := [], harness := (true, "21905dc54e1fa92505d8f6f0b9bbafaa01c3ad67a2d63a510b6a60401a2a3624"), looks := false }, kinds := [], alts := [], laidByText := true, laidKinds := [.listed, .data], laidTests := true, laidLooks := .later }
def SchemaNamesCardSaid : Prop := Claim7.holds Tryd.pinned (.plain (OpenSpec.ofChange schemaNamesSpec)) schemaNamesCard

/-- THE TIED CARD OF 'columbarylaw10.SchemaChecks'. -/
def schemaChecksCard : Claim7 := { stood := { row := schemaChecksRow, standIns := [], harness := (true, "21905dc54e1fa92505d8f6f0b9bbafaa01c3ad67a2d63a510b6a60401a2a3624"), looks := false }, kinds := [], alts := [], laidByText := true, laidKinds := [.listed, .data], laidTests := true, laidLooks := .later }
def SchemaChecksCardSaid : Prop := Claim7.holds Tryd.pinned (.plain (OpenSpec.ofChange schemaChecksSpec)) schemaChecksCard

/-- THE TIED CARD OF 'columbarylaw10.SchemaSubset'. -/
def schemaSubsetCard : Claim7 := { stood := { row := schemaSubsetRow, standIns := [], harness := (true, "21905dc54e1fa92505d8f6f0b9bbafaa01c3ad67a2d63a510b6a60401a2a3624"), looks := false }, kinds := [], alts := [], laidByText := true, laidKinds := [.listed, .data], laidTests := true, laidLooks := .later }
def SchemaSubsetCardSaid : Prop := Claim7.holds Tryd.pinned (.plain (OpenSpec.ofChange schemaSubsetSpec)) schemaSubsetCard

/-- THE TIED CARD OF 'columbarylaw10.SchemaOne'. -/
def schemaOneCard : Claim7 := { stood := { row := schemaOneRow, standIns := [], harness := (true, "21905dc54e1fa92505d8f6f0b9bbafaa01c3ad67a2d63a510b6a60401a2a3624"), looks := false }, kinds := [], alts := [], laidByText := true, laidKinds := [.listed, .data], laidTests := true, laidLooks := .later }
def SchemaOneCardSaid : Prop := Claim7.holds Tryd.pinned (.plain (OpenSpec.ofChange schemaOneSpec)) schemaOneCard

/-- THE SECOND FORM's CARD OF 'columbarylaw10.SchemaNames'. -/
def schemaNamesUptoCard : Claim7 := { stood := { row := schemaNamesUptoRow, standIns := [], harness := (true, "21905dc54e1fa92505d8f6f0b9bbafaa01c3ad67a2d63a510b6a60401a2a3624"), looks := false }, kinds := [], alts := [], laidByText := true, laidKinds := [.listed, .data], laidTests := true, laidLooks := .later }
def SchemaNamesUptoCardSaid : Prop := Claim7.holds Tryd.pinned (.plain (OpenSpec.upto schemaNamesSpec)) schemaNamesUptoCard

/-- THE SECOND FORM's CARD OF 'columbarylaw10.SchemaChecks'. -/
def schemaChecksUptoCard : Claim7 := { stood := { row := schemaChecksUptoRow, standIns := [], harness := (true, "21905dc54e1fa92505d8f6f0b9bbafaa01c3ad67a2d63a510b6a60401a2a3624"), looks := false }, kinds := [], alts := [], laidByText := true, laidKinds := [.listed, .data], laidTests := true, laidLooks := .later }
def SchemaChecksUptoCardSaid : Prop := Claim7.holds Tryd.pinned (.plain (OpenSpec.upto schemaChecksSpec)) schemaChecksUptoCard

/-- THE SECOND FORM's CARD OF 'columbarylaw10.SchemaSubset'. -/
def schemaSubsetUptoCard : Claim7 := { stood := { row := schemaSubsetUptoRow, standIns := [], harness := (true, "21905dc54e1fa92505d8f6f0b9bbafaa01c3ad67a2d63a510b6a60401a2a3624"), looks := false }, kinds := [], alts := [], laidByText := true, laidKinds := [.listed, .data], laidTests := true, laidLooks := .later }
def SchemaSubsetUptoCardSaid : Prop := Claim7.holds Tryd.pinned (.plain (OpenSpec.upto schemaSubsetSpec)) schemaSubsetUptoCard

/-- THE SECOND FORM's CARD OF 'columbarylaw10.SchemaOne'. -/
def schemaOneUptoCard : Claim7 := { stood := { row := schemaOneUptoRow, standIns := [], harness := (true, "21905dc54e1fa92505d8f6f0b9bbafaa01c3ad67a2d63a510b6a60401a2a3624"), looks := false }, kinds := [], alts := [], laidByText := true, laidKinds := [.listed, .data], laidTests := true, laidLooks := .later }
def SchemaOneUptoCardSaid : Prop := Claim7.holds Tryd.pinned (.plain (OpenSpec.upto schemaOneSpec)) schemaOneUptoCard
end Rows
end Go.Proofs.YthgafblmefjkdaaDoor
