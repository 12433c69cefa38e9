/-
  DERIVED. GIVEN WITH THE SEED: THE CARDS: each row of YtplehleekabbaaaGreatDoorRows.lean that lists a variable, with what it lists TIED to the program's text (the seventh form; the later family's looks); each row that meets fmt, with fmt's text TOLD by the authors' own Lean function (tested against real Go, not proved from fmt's source: count such statements apart). THE CARD IS WHAT COUNTS. Prove the row's statement (the work); the ties are given (YtplehleekabbaaaGreatDoorTie.lean); close each card by the builder's one call (the guide's Derived/Test/ToyasCard.lean, 'card_holds'). Laid BY PROGRAM, IN A SANDBOX (cutbox-door.mjs). By AI agents, Wed Nov 11 2026. No macro, syntax, notation, axiom, sorry.
-/
import Derived.Test.YtplehleekabbaaaGreatDoorRows
import GoSem.ClaimSeven
namespace Go.Proofs.YtplehleekabbaaaGreatDoor
namespace Rows

/-- THE TIED CARD OF 'columbarylaw18.IngestCharges'. -/
def ingestChargesCard : Claim7 := { stood := { row := ingestChargesRow, standIns := [], harness := (true, "96a1ae12b5130497405f42e594c85ffbbc7f0f8cad1ac1aa2b166887b77bfe7e"), looks := true }, kinds := [], alts := [], laidByText := true, laidKinds := [.data, .data, .data, .listed, .data], laidTests := true, laidLooks := .later }
def IngestChargesCardSaid : Prop := Claim7.holds Tryz.pinned (.plain (OpenSpec.ofChange ingestChargesSpec)) ingestChargesCard

/-- THE TIED CARD OF 'columbarylaw18.IngestBuckets'. -/
def ingestBucketsCard : Claim7 := { stood := { row := ingestBucketsRow, standIns := [], harness := (true, "96a1ae12b5130497405f42e594c85ffbbc7f0f8cad1ac1aa2b166887b77bfe7e"), looks := true }, kinds := [], alts := [], laidByText := true, laidKinds := [.data, .data, .data, .listed, .data], laidTests := true, laidLooks := .later }
def IngestBucketsCardSaid : Prop := Claim7.holds Tryz.pinned (.plain (OpenSpec.ofChange ingestBucketsSpec)) ingestBucketsCard

/-- THE TIED CARD OF 'columbarylaw18.IngestPlays'. -/
def ingestPlaysCard : Claim7 := { stood := { row := ingestPlaysRow, standIns := [], harness := (true, "96a1ae12b5130497405f42e594c85ffbbc7f0f8cad1ac1aa2b166887b77bfe7e"), looks := true }, kinds := [], alts := [], laidByText := true, laidKinds := [.data, .data, .data, .listed, .data], laidTests := true, laidLooks := .later }
def IngestPlaysCardSaid : Prop := Claim7.holds Tryz.pinned (.plain (OpenSpec.ofChange ingestPlaysSpec)) ingestPlaysCard

/-- THE TIED CARD OF 'columbarylaw18.IngestNil'. -/
def ingestNilCard : Claim7 := { stood := { row := ingestNilRow, standIns := [], harness := (true, "96a1ae12b5130497405f42e594c85ffbbc7f0f8cad1ac1aa2b166887b77bfe7e"), looks := true }, kinds := [], alts := [], laidByText := true, laidKinds := [.data, .data, .data, .listed, .data], laidTests := true, laidLooks := .later }
def IngestNilCardSaid : Prop := Claim7.holds Tryz.pinned (.plain (OpenSpec.ofChange ingestNilSpec)) ingestNilCard

/-- THE TIED CARD OF 'columbarylaw18.IngestOrder'. -/
def ingestOrderCard : Claim7 := { stood := { row := ingestOrderRow, standIns := [], harness := (true, "96a1ae12b5130497405f42e594c85ffbbc7f0f8cad1ac1aa2b166887b77bfe7e"), looks := true }, kinds := [], alts := [], laidByText := true, laidKinds := [.data, .data, .data, .listed, .data], laidTests := true, laidLooks := .later }
def IngestOrderCardSaid : Prop := Claim7.holds Tryz.pinned (.plain (OpenSpec.ofChange ingestOrderSpec)) ingestOrderCard

/-- THE SECOND FORM's CARD OF 'columbarylaw18.IngestCharges'. -/
def ingestChargesUptoCard : Claim7 := { stood := { row := ingestChargesUptoRow, standIns := [], harness := (true, "96a1ae12b5130497405f42e594c85ffbbc7f0f8cad1ac1aa2b166887b77bfe7e"), looks := true }, kinds := [], alts := [], laidByText := true, laidKinds := [.data, .data, .data, .listed, .data], laidTests := true, laidLooks := .later }
def IngestChargesUptoCardSaid : Prop := Claim7.holds Tryz.pinned (.plain (OpenSpec.upto ingestChargesSpec)) ingestChargesUptoCard

/-- THE SECOND FORM's CARD OF 'columbarylaw18.IngestBuckets'. -/
def ingestBucketsUptoCard : Claim7 := { stood := { row := ingestBucketsUptoRow, standIns := [], harness := (true, "96a1ae12b5130497405f42e594c85ffbbc7f0f8cad1ac1aa2b166887b77bfe7e"), looks := true }, kinds := [], alts := [], laidByText := true, laidKinds := [.data, .data, .data, .listed, .data], laidTests := true, laidLooks := .later }
def IngestBucketsUptoCardSaid : Prop := Claim7.holds Tryz.pinned (.plain (OpenSpec.upto ingestBucketsSpec)) ingestBucketsUptoCard

/-- THE SECOND FORM's CARD OF 'columbarylaw18.IngestPlays'. -/
def ingestPlaysUptoCard : Claim7 := { stood := { row := ingestPlaysUptoRow, standIns := [], harness := (true, "96a1ae12b5130497405f42e594c85ffbbc7f0f8cad1ac1aa2b166887b77bfe7e"), looks := true }, kinds := [], alts := [], laidByText := true, laidKinds := [.data, .data, .data, .listed, .data], laidTests := true, laidLooks := .later }
def IngestPlaysUptoCardSaid : Prop := Claim7.holds Tryz.pinned (.plain (OpenSpec.upto ingestPlaysSpec)) ingestPlaysUptoCard

/-- THE SECOND FORM's CARD OF 'columbarylaw18.IngestNil'. -/
def ingestNilUptoCard : Claim7 := { stood := { row := ingestNilUptoRow, standIns := [], harness := (true, "96a1ae12b5130497405f42e594c85ffbbc7f0f8cad1ac1aa2b166887b77bfe7e"), looks := true }, kinds := [], alts := [], laidByText := true, laidKinds := [.data, .data, .data, .listed, .data], laidTests := true, laidLooks := .later }
def IngestNilUptoCardSaid : Prop := Claim7.holds Tryz.pinned (.plain (OpenSpec.upto ingestNilSpec)) ingestNilUptoCard

/-- THE SECOND FORM's CARD OF 'columbarylaw18.IngestOrder'. -/
def ingestOrderUptoCard : Claim7 := { stood := { row := ingestOrderUptoRow, standIns := [], harness := (true, "96a1ae12b5130497405f42e594c85ffbbc7f0f8cad1ac1aa2b166887b77bfe7e"), looks := true }, kinds := [], alts := [], laidByText := true, laidKinds := [.data, .data, .data, .listed, .data], laidTests := true, laidLooks := .later }
def IngestOrderUptoCardSaid : Prop := Claim7.holds Tryz.pinned (.plain (OpenSpec.upto ingestOrderSpec)) ingestOrderUptoCard
end Rows
end Go.Proofs.YtplehleekabbaaaGreatDoor
