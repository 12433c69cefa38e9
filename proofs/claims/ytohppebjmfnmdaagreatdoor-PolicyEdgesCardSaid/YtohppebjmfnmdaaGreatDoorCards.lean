/-
  DERIVED. GIVEN WITH THE SEED: THE CARDS: each row of YtohppebjmfnmdaaGreatDoorRows.lean that lists a variable, with what it lists TIED to the program's text (the seventh form; the later family's looks); each row that meets fmt, with fmt's text TOLD by the authors' own Lean function (tested against real Go, not proved from fmt's source: count such statements apart). THE CARD IS WHAT COUNTS. Prove the row's statement (the work); the ties are given (YtohppebjmfnmdaaGreatDoorTie.lean); close each card by the builder's one call (the guide's Derived/Test/ToyasCard.lean, 'card_holds'). Laid BY PROGRAM, IN A SANDBOX (cutbox-door.mjs). By AI agents, Wed Nov 11 2026. No macro, syntax, notation, axiom, sorry.
-/
import Derived.Test.YtohppebjmfnmdaaGreatDoorRows
import GoSem.ClaimSeven
namespace Go.Proofs.YtohppebjmfnmdaaGreatDoor
namespace Rows

/-- THE TIED CARD OF 'columbarylaw17.PolicyEdges'. -/
def policyEdgesCard : Claim7 := { stood := { row := policyEdgesRow, standIns := [], harness := (true, "40eb6e45b7f20d950f0baf501bdee1cadaa3a55106790487e1e7382f4a3614f8"), looks := true }, kinds := [], alts := [], laidByText := true, laidKinds := [.data, .data, .data, .data, .sentinel, .sentinel, .listed, .data, .pinned], laidTests := true, laidLooks := .later }
def PolicyEdgesCardSaid : Prop := Claim7.holds Tryz.pinned (.plain (OpenSpec.ofChange policyEdgesSpec)) policyEdgesCard

/-- THE SECOND FORM's CARD OF 'columbarylaw17.PolicyEdges'. -/
def policyEdgesUptoCard : Claim7 := { stood := { row := policyEdgesUptoRow, standIns := [], harness := (true, "40eb6e45b7f20d950f0baf501bdee1cadaa3a55106790487e1e7382f4a3614f8"), looks := true }, kinds := [], alts := [], laidByText := true, laidKinds := [.data, .data, .data, .data, .sentinel, .sentinel, .listed, .data, .pinned], laidTests := true, laidLooks := .later }
def PolicyEdgesUptoCardSaid : Prop := Claim7.holds Tryz.pinned (.plain (OpenSpec.upto policyEdgesSpec)) policyEdgesUptoCard
end Rows
end Go.Proofs.YtohppebjmfnmdaaGreatDoor
