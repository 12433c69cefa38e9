/-
  No cell of these rows narrows 'for every input' (looked for: loops, veiled, ifaces, maps, wideKeys, modest, calm, conditions, laid).
  DERIVED. THE GIVEN ROWS OF THIS SEAT. 4 by the template 'for every input the law returns true; each argument reads behind the call as it read before'; 0 by the template 'total and deterministic' (their statements: YtmhcmpeffhlaeaaGreatTotals.lean).
  GIVEN WITH THE SEED: the statements are not yours to turn. If you find one false, say at which input.
  Laid BY PROGRAM, IN A SANDBOX (cutbox-rows.mjs): the forced cells as the released guide's own fill.sh prints them over the translation 6f3867e154e50939… (all of the seat's roots in one cut). By AI agents, Wed Nov 11 2026. No macro, syntax, notation, axiom, sorry.
-/
import Derived.Test.YtmhcmpeffhlaeaaGreatChecked
import GoSem.Claim
import GoSem.ClaimJoined
import GoSem.ClaimMapViews
import Derived.JoinedTies
import Derived.KernelRfl
namespace Go.Proofs.YtmhcmpeffhlaeaaGreat
/- THE CELL 'sum', in the pinned program and in every row, IS THE sha256 OF THE DUMP (.gsa) THAT YtmhcmpeffhlaeaaGreatProg.lean LOADS. Nothing in Lean hashes anything: it is a label: what it is worth is what the hold of that sum in a sandbox is worth. -/
noncomputable def Tryz.pinned : Pinned := { name := "ytmhcmpeffhlaeaagreat", sum := "6f3867e154e509393e78fd2d889dabd2af7b82ccbf8d2e87d70e79c34edf6e62", checked := Tryz.checked }
namespace Rows
def none {H : Type} : Left H := { results := [], args := [] }

/-- 'columbarylaw09.DimcolTells': WHATEVER THE INPUT: true; the input reads as it did. -/
def dimcolTellsSpec : ChangeSpec := { name := "dimcolTells", fn := fun _ => fun
  | [d1, d2, d3] => { results := [.lit (.bool true)], args := [d1, d2, d3] }
  | _ => none }
def dimcolTellsRow : OpenClaim := { program := "ytmhcmpeffhlaeaagreat", sum := "6f3867e154e509393e78fd2d889dabd2af7b82ccbf8d2e87d70e79c34edf6e62", func := "columbary/columbarylaw09.DimcolTells", spec := "dimcolTells", unfollowed := true, recurses := true, apart := false }
def DimcolTellsSaid : Prop := dimcolTellsRow.holds Tryz.pinned (OpenSpec.ofChange dimcolTellsSpec)

/-- ITS FALSE NEIGHBOUR: 'it returns false'. Refute it at one input. -/
def dimcolTellsWrong : ChangeSpec := { name := "dimcolTells", fn := fun _ => fun
  | [d1, d2, d3] => { results := [.lit (.bool false)], args := [d1, d2, d3] }
  | _ => none }
def DimcolTellsWrongFalsely : Prop := dimcolTellsRow.holds Tryz.pinned (OpenSpec.ofChange dimcolTellsWrong)

/-- 'columbarylaw09.DimcolParses': WHATEVER THE INPUT: true; the input reads as it did. -/
def dimcolParsesSpec : ChangeSpec := { name := "dimcolParses", fn := fun _ => fun
  | [d] => { results := [.lit (.bool true)], args := [d] }
  | _ => none }
def dimcolParsesRow : OpenClaim := { program := "ytmhcmpeffhlaeaagreat", sum := "6f3867e154e509393e78fd2d889dabd2af7b82ccbf8d2e87d70e79c34edf6e62", func := "columbary/columbarylaw09.DimcolParses", spec := "dimcolParses", unfollowed := true, recurses := true, apart := false }
def DimcolParsesSaid : Prop := dimcolParsesRow.holds Tryz.pinned (OpenSpec.ofChange dimcolParsesSpec)

/-- ITS FALSE NEIGHBOUR: 'it returns false'. Refute it at one input. -/
def dimcolParsesWrong : ChangeSpec := { name := "dimcolParses", fn := fun _ => fun
  | [d] => { results := [.lit (.bool false)], args := [d] }
  | _ => none }
def DimcolParsesWrongFalsely : Prop := dimcolParsesRow.holds Tryz.pinned (OpenSpec.ofChange dimcolParsesWrong)

/-- 'columbarylaw09.DimcolRows': WHATEVER THE INPUT: true; the input reads as it did. -/
def dimcolRowsSpec : ChangeSpec := { name := "dimcolRows", fn := fun _ => fun
  | [d] => { results := [.lit (.bool true)], args := [d] }
  | _ => none }
def dimcolRowsRow : OpenClaim := { program := "ytmhcmpeffhlaeaagreat", sum := "6f3867e154e509393e78fd2d889dabd2af7b82ccbf8d2e87d70e79c34edf6e62", func := "columbary/columbarylaw09.DimcolRows", spec := "dimcolRows", unfollowed := true, recurses := true, apart := false }
def DimcolRowsSaid : Prop := dimcolRowsRow.holds Tryz.pinned (OpenSpec.ofChange dimcolRowsSpec)

/-- ITS FALSE NEIGHBOUR: 'it returns false'. Refute it at one input. -/
def dimcolRowsWrong : ChangeSpec := { name := "dimcolRows", fn := fun _ => fun
  | [d] => { results := [.lit (.bool false)], args := [d] }
  | _ => none }
def DimcolRowsWrongFalsely : Prop := dimcolRowsRow.holds Tryz.pinned (OpenSpec.ofChange dimcolRowsWrong)

/-- 'columbarylaw09.DimcolNil': WHATEVER THE INPUT: true; the input reads as it did. -/
def dimcolNilSpec : ChangeSpec := { name := "dimcolNil", fn := fun _ => fun
  | [d1, d2] => { results := [.lit (.bool true)], args := [d1, d2] }
  | _ => none }
def dimcolNilRow : OpenClaim := { program := "ytmhcmpeffhlaeaagreat", sum := "6f3867e154e509393e78fd2d889dabd2af7b82ccbf8d2e87d70e79c34edf6e62", func := "columbary/columbarylaw09.DimcolNil", spec := "dimcolNil", unfollowed := true, recurses := true, apart := false }
def DimcolNilSaid : Prop := dimcolNilRow.holds Tryz.pinned (OpenSpec.ofChange dimcolNilSpec)

/-- ITS FALSE NEIGHBOUR: 'it returns false'. Refute it at one input. -/
def dimcolNilWrong : ChangeSpec := { name := "dimcolNil", fn := fun _ => fun
  | [d1, d2] => { results := [.lit (.bool false)], args := [d1, d2] }
  | _ => none }
def DimcolNilWrongFalsely : Prop := dimcolNilRow.holds Tryz.pinned (OpenSpec.ofChange dimcolNilWrong)

/- THE SECOND FORM. 'bulk': how many values and letters a reading holds, each counted each time it is reached (what is shared counts as often as it is met; a slice's spare places count too). A statement '..UptoSaid' is the law's where the arguments, and the package variables that the reading takes, are together of bulk at most 1048576: NARROWER than '..Said'. Prove '..Said' where nothing that the law and all that it calls make is longer than what came in: it says more and counts as full. Else prove '..UptoSaid'. A law counts once. -/
mutual
def uptoBulk {H : Type} : DataW H → Nat
  | .lit (.string bytes) => bytes.length + 1
  | .lit _ => 1
  | .nil => 1
  | .ptr d => uptoBulk d + 1
  | .slice elems spare => uptoBulkAll elems + uptoBulkAll spare + 1
  | .agg parts => uptoBulkAll parts + 1
  | .iface _ d => uptoBulk d + 1
  | .map entries => uptoBulkEntries entries + 1
  | .held _ => 1
def uptoBulkAll {H : Type} : List (DataW H) → Nat
  | [] => 0
  | d :: r => uptoBulk d + uptoBulkAll r
def uptoBulkEntries {H : Type} : List (Lit × DataW H) → Nat
  | [] => 0
  | x :: r => uptoBulkEntry x + uptoBulkEntries r
def uptoBulkEntry {H : Type} : Lit × DataW H → Nat
  | (.string bytes, d) => bytes.length + uptoBulk d + 1
  | (_, d) => uptoBulk d + 1
 end
def uptoSmall : (H : Type) → List (DataW H) → Bool := fun _ ds => decide (uptoBulkAll ds ≤ 1048576)
def OpenSpec.upto (s : _root_.Go.ChangeSpec) : _root_.Go.OpenSpec := { _root_.Go.OpenSpec.ofChange s with cond := some uptoSmall }

/-- 'columbarylaw09.DimcolTells', WHERE WHAT IT READS IS OF BULK AT MOST 1048576: true; the input reads as it did. -/
def dimcolTellsUptoRow : OpenClaim := { program := "ytmhcmpeffhlaeaagreat", sum := "6f3867e154e509393e78fd2d889dabd2af7b82ccbf8d2e87d70e79c34edf6e62", func := "columbary/columbarylaw09.DimcolTells", spec := "dimcolTells", unfollowed := true, recurses := true, apart := false, narrowed := true }
def DimcolTellsUptoSaid : Prop := dimcolTellsUptoRow.holds Tryz.pinned (OpenSpec.upto dimcolTellsSpec)

/-- 'columbarylaw09.DimcolParses', WHERE WHAT IT READS IS OF BULK AT MOST 1048576: true; the input reads as it did. -/
def dimcolParsesUptoRow : OpenClaim := { program := "ytmhcmpeffhlaeaagreat", sum := "6f3867e154e509393e78fd2d889dabd2af7b82ccbf8d2e87d70e79c34edf6e62", func := "columbary/columbarylaw09.DimcolParses", spec := "dimcolParses", unfollowed := true, recurses := true, apart := false, narrowed := true }
def DimcolParsesUptoSaid : Prop := dimcolParsesUptoRow.holds Tryz.pinned (OpenSpec.upto dimcolParsesSpec)

/-- 'columbarylaw09.DimcolRows', WHERE WHAT IT READS IS OF BULK AT MOST 1048576: true; the input reads as it did. -/
def dimcolRowsUptoRow : OpenClaim := { program := "ytmhcmpeffhlaeaagreat", sum := "6f3867e154e509393e78fd2d889dabd2af7b82ccbf8d2e87d70e79c34edf6e62", func := "columbary/columbarylaw09.DimcolRows", spec := "dimcolRows", unfollowed := true, recurses := true, apart := false, narrowed := true }
def DimcolRowsUptoSaid : Prop := dimcolRowsUptoRow.holds Tryz.pinned (OpenSpec.upto dimcolRowsSpec)

/-- 'columbarylaw09.DimcolNil', WHERE WHAT IT READS IS OF BULK AT MOST 1048576: true; the input reads as it did. -/
def dimcolNilUptoRow : OpenClaim := { program := "ytmhcmpeffhlaeaagreat", sum := "6f3867e154e509393e78fd2d889dabd2af7b82ccbf8d2e87d70e79c34edf6e62", func := "columbary/columbarylaw09.DimcolNil", spec := "dimcolNil", unfollowed := true, recurses := true, apart := false, narrowed := true }
def DimcolNilUptoSaid : Prop := dimcolNilUptoRow.holds Tryz.pinned (OpenSpec.upto dimcolNilSpec)

end Rows
end Go.Proofs.YtmhcmpeffhlaeaaGreat
