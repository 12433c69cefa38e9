/-
  DERIVED. GIVEN WITH THE SEED: THE CARDS: each row of YtchboekipfpheaaDoorRows.lean that lists a variable, with what it lists TIED to the program's text (the seventh form; the later family's looks); each row that meets fmt, with fmt's text TOLD by the authors' own Lean function (tested against real Go, not proved from fmt's source: count such statements apart). THE CARD IS WHAT COUNTS. Prove the row's statement (the work); the ties are given (YtchboekipfpheaaDoorTie.lean); close each card by the builder's one call (the guide's Derived/Test/ToyasCard.lean, 'card_holds'). Laid BY PROGRAM, IN A SANDBOX (cutbox-door.mjs). By AI agents, Wed Nov 11 2026. No macro, syntax, notation, axiom, sorry.
-/
import Derived.Test.YtchboekipfpheaaDoorRows
import GoSem.ClaimSeven
namespace Go.Proofs.YtchboekipfpheaaDoor
namespace Rows

/-- THE TIED CARD OF 'columbarylaw21.LexerTells'. -/
def lexerTellsCard : Claim7 := { stood := { row := lexerTellsRow, standIns := [], harness := (true, "c482df7fedff912823502a5048616161e10a1e966d07183aca7abb79370abfae"), looks := true }, kinds := [], alts := [], laidByText := true, laidKinds := [.data, .data, .data, .data, .sentinel, .sentinel, .pinned], laidTests := true, laidLooks := .later }
def LexerTellsCardSaid : Prop := Claim7.holds Tryd.pinned (.plain (OpenSpec.ofChange lexerTellsSpec)) lexerTellsCard

/-- THE TIED CARD OF 'columbarylaw21.LexerText'. -/
def lexerTextCard : Claim7 := { stood := { row := lexerTextRow, standIns := [], harness := (true, "c482df7fedff912823502a5048616161e10a1e966d07183aca7abb79370abfae"), looks := true }, kinds := [], alts := [], laidByText := true, laidKinds := [.data, .data, .data, .data, .sentinel, .sentinel, .pinned], laidTests := true, laidLooks := .later }
def LexerTextCardSaid : Prop := Claim7.holds Tryd.pinned (.plain (OpenSpec.ofChange lexerTextSpec)) lexerTextCard

/-- THE TIED CARD OF 'columbarylaw21.LexerBack'. -/
def lexerBackCard : Claim7 := { stood := { row := lexerBackRow, standIns := [], harness := (true, "c482df7fedff912823502a5048616161e10a1e966d07183aca7abb79370abfae"), looks := true }, kinds := [], alts := [], laidByText := true, laidKinds := [.data, .data, .data, .data, .sentinel, .sentinel, .pinned], laidTests := true, laidLooks := .later }
def LexerBackCardSaid : Prop := Claim7.holds Tryd.pinned (.plain (OpenSpec.ofChange lexerBackSpec)) lexerBackCard

/-- THE TIED CARD OF 'columbarylaw21.LexerPieces'. -/
def lexerPiecesCard : Claim7 := { stood := { row := lexerPiecesRow, standIns := [], harness := (true, "c482df7fedff912823502a5048616161e10a1e966d07183aca7abb79370abfae"), looks := true }, kinds := [], alts := [], laidByText := true, laidKinds := [.data, .data, .data, .data, .sentinel, .sentinel, .pinned], laidTests := true, laidLooks := .later }
def LexerPiecesCardSaid : Prop := Claim7.holds Tryd.pinned (.plain (OpenSpec.ofChange lexerPiecesSpec)) lexerPiecesCard

/-- THE SECOND FORM's CARD OF 'columbarylaw21.LexerTells'. -/
def lexerTellsUptoCard : Claim7 := { stood := { row := lexerTellsUptoRow, standIns := [], harness := (true, "c482df7fedff912823502a5048616161e10a1e966d07183aca7abb79370abfae"), looks := true }, kinds := [], alts := [], laidByText := true, laidKinds := [.data, .data, .data, .data, .sentinel, .sentinel, .pinned], laidTests := true, laidLooks := .later }
def LexerTellsUptoCardSaid : Prop := Claim7.holds Tryd.pinned (.plain (OpenSpec.upto lexerTellsSpec)) lexerTellsUptoCard

/-- THE SECOND FORM's CARD OF 'columbarylaw21.LexerText'. -/
def lexerTextUptoCard : Claim7 := { stood := { row := lexerTextUptoRow, standIns := [], harness := (true, "c482df7fedff912823502a5048616161e10a1e966d07183aca7abb79370abfae"), looks := true }, kinds := [], alts := [], laidByText := true, laidKinds := [.data, .data, .data, .data, .sentinel, .sentinel, .pinned], laidTests := true, laidLooks := .later }
def LexerTextUptoCardSaid : Prop := Claim7.holds Tryd.pinned (.plain (OpenSpec.upto lexerTextSpec)) lexerTextUptoCard

/-- THE SECOND FORM's CARD OF 'columbarylaw21.LexerBack'. -/
def lexerBackUptoCard : Claim7 := { stood := { row := lexerBackUptoRow, standIns := [], harness := (true, "c482df7fedff912823502a5048616161e10a1e966d07183aca7abb79370abfae"), looks := true }, kinds := [], alts := [], laidByText := true, laidKinds := [.data, .data, .data, .data, .sentinel, .sentinel, .pinned], laidTests := true, laidLooks := .later }
def LexerBackUptoCardSaid : Prop := Claim7.holds Tryd.pinned (.plain (OpenSpec.upto lexerBackSpec)) lexerBackUptoCard

/-- THE SECOND FORM's CARD OF 'columbarylaw21.LexerPieces'. -/
def lexerPiecesUptoCard : Claim7 := { stood := { row := lexerPiecesUptoRow, standIns := [], harness := (true, "c482df7fedff912823502a5048616161e10a1e966d07183aca7abb79370abfae"), looks := true }, kinds := [], alts := [], laidByText := true, laidKinds := [.data, .data, .data, .data, .sentinel, .sentinel, .pinned], laidTests := true, laidLooks := .later }
def LexerPiecesUptoCardSaid : Prop := Claim7.holds Tryd.pinned (.plain (OpenSpec.upto lexerPiecesSpec)) lexerPiecesUptoCard
end Rows
end Go.Proofs.YtchboekipfpheaaDoor
