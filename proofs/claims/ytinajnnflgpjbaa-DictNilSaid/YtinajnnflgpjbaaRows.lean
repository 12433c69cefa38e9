/-
  No cell of these rows narrows 'for every input' (looked for: loops, veiled, ifaces, maps, wideKeys, modest, calm, conditions, laid).
  DERIVED. THE GIVEN ROWS OF THIS SEAT. 9 by the template 'for every input the law returns true; each argument reads behind the call as it read before'; 0 by the template 'total and deterministic' (their statements: YtinajnnflgpjbaaTotals.lean).
  GIVEN WITH THE SEED: the statements are not yours to turn. If you find one false, say at which input.
  Laid BY PROGRAM, IN A SANDBOX (cutbox-rows.mjs): the forced cells as the released guide's own fill.sh prints them over the translation a9c7c5194de9c40d… (all of the seat's roots in one cut). By AI agents, Wed Nov 11 2026. No macro, syntax, notation, axiom, sorry.
-/
import Derived.Test.YtinajnnflgpjbaaChecked
import GoSem.Claim
import GoSem.ClaimJoined
import GoSem.ClaimMapViews
import Derived.JoinedTies
import Derived.KernelRfl
namespace Go.Proofs.Ytinajnnflgpjbaa
/- THE CELL 'sum', in the pinned program and in every row, IS THE sha256 OF THE DUMP (.gsa) THAT YtinajnnflgpjbaaProg.lean LOADS. Nothing in Lean hashes anything: it is a label: what it is worth is what the hold of that sum in a sandbox is worth. -/
noncomputable def Try.pinned : Pinned := { name := "ytinajnnflgpjbaa", sum := "a9c7c5194de9c40d245d29d378c04564da25e78e8a017d2decd5dbe9acf5b296", checked := Try.checked }
namespace Rows
def none {H : Type} : Left H := { results := [], args := [] }

/-- 'columbarylaw12.AggTells': WHATEVER THE INPUT: true; the input reads as it did. -/
def aggTellsSpec : ChangeSpec := { name := "aggTells", fn := fun _ => fun
  | [d1, d2, d3] => { results := [.lit (.bool true)], args := [d1, d2, d3] }
  | _ => none }
def aggTellsRow : OpenClaim := { program := "ytinajnnflgpjbaa", sum := "a9c7c5194de9c40d245d29d378c04564da25e78e8a017d2decd5dbe9acf5b296", func := "columbary/columbarylaw12.AggTells", spec := "aggTells", apart := false }
def AggTellsSaid : Prop := aggTellsRow.holds Try.pinned (OpenSpec.ofChange aggTellsSpec)

/-- ITS FALSE NEIGHBOUR: 'it returns false'. Refute it at one input. -/
def aggTellsWrong : ChangeSpec := { name := "aggTells", fn := fun _ => fun
  | [d1, d2, d3] => { results := [.lit (.bool false)], args := [d1, d2, d3] }
  | _ => none }
def AggTellsWrongFalsely : Prop := aggTellsRow.holds Try.pinned (OpenSpec.ofChange aggTellsWrong)

/-- 'columbarylaw12.AggOrder': WHATEVER THE INPUT: true; the input reads as it did. -/
def aggOrderSpec : ChangeSpec := { name := "aggOrder", fn := fun _ => fun
  | [d1, d2] => { results := [.lit (.bool true)], args := [d1, d2] }
  | _ => none }
def aggOrderRow : OpenClaim := { program := "ytinajnnflgpjbaa", sum := "a9c7c5194de9c40d245d29d378c04564da25e78e8a017d2decd5dbe9acf5b296", func := "columbary/columbarylaw12.AggOrder", spec := "aggOrder", apart := false }
def AggOrderSaid : Prop := aggOrderRow.holds Try.pinned (OpenSpec.ofChange aggOrderSpec)

/-- ITS FALSE NEIGHBOUR: 'it returns false'. Refute it at one input. -/
def aggOrderWrong : ChangeSpec := { name := "aggOrder", fn := fun _ => fun
  | [d1, d2] => { results := [.lit (.bool false)], args := [d1, d2] }
  | _ => none }
def AggOrderWrongFalsely : Prop := aggOrderRow.holds Try.pinned (OpenSpec.ofChange aggOrderWrong)

/-- 'columbarylaw12.AggBounds': WHATEVER THE INPUT: true; the input reads as it did. -/
def aggBoundsSpec : ChangeSpec := { name := "aggBounds", fn := fun _ => fun
  | [d] => { results := [.lit (.bool true)], args := [d] }
  | _ => none }
def aggBoundsRow : OpenClaim := { program := "ytinajnnflgpjbaa", sum := "a9c7c5194de9c40d245d29d378c04564da25e78e8a017d2decd5dbe9acf5b296", func := "columbary/columbarylaw12.AggBounds", spec := "aggBounds", apart := false }
def AggBoundsSaid : Prop := aggBoundsRow.holds Try.pinned (OpenSpec.ofChange aggBoundsSpec)

/-- ITS FALSE NEIGHBOUR: 'it returns false'. Refute it at one input. -/
def aggBoundsWrong : ChangeSpec := { name := "aggBounds", fn := fun _ => fun
  | [d] => { results := [.lit (.bool false)], args := [d] }
  | _ => none }
def AggBoundsWrongFalsely : Prop := aggBoundsRow.holds Try.pinned (OpenSpec.ofChange aggBoundsWrong)

/-- 'columbarylaw12.AggBoth': WHATEVER THE INPUT: true; the input reads as it did. -/
def aggBothSpec : ChangeSpec := { name := "aggBoth", fn := fun _ => fun
  | [d1, d2, d3] => { results := [.lit (.bool true)], args := [d1, d2, d3] }
  | _ => none }
def aggBothRow : OpenClaim := { program := "ytinajnnflgpjbaa", sum := "a9c7c5194de9c40d245d29d378c04564da25e78e8a017d2decd5dbe9acf5b296", func := "columbary/columbarylaw12.AggBoth", spec := "aggBoth", apart := false }
def AggBothSaid : Prop := aggBothRow.holds Try.pinned (OpenSpec.ofChange aggBothSpec)

/-- ITS FALSE NEIGHBOUR: 'it returns false'. Refute it at one input. -/
def aggBothWrong : ChangeSpec := { name := "aggBoth", fn := fun _ => fun
  | [d1, d2, d3] => { results := [.lit (.bool false)], args := [d1, d2, d3] }
  | _ => none }
def AggBothWrongFalsely : Prop := aggBothRow.holds Try.pinned (OpenSpec.ofChange aggBothWrong)

/-- 'columbarylaw06.DictTells': WHATEVER THE INPUT: true; the input reads as it did. -/
def dictTellsSpec : ChangeSpec := { name := "dictTells", fn := fun _ => fun
  | [d1, d2, d3] => { results := [.lit (.bool true)], args := [d1, d2, d3] }
  | _ => none }
def dictTellsRow : OpenClaim := { program := "ytinajnnflgpjbaa", sum := "a9c7c5194de9c40d245d29d378c04564da25e78e8a017d2decd5dbe9acf5b296", func := "columbary/columbarylaw06.DictTells", spec := "dictTells", unfollowed := true, recurses := true, apart := false }
def DictTellsSaid : Prop := dictTellsRow.holds Try.pinned (OpenSpec.ofChange dictTellsSpec)

/-- ITS FALSE NEIGHBOUR: 'it returns false'. Refute it at one input. -/
def dictTellsWrong : ChangeSpec := { name := "dictTells", fn := fun _ => fun
  | [d1, d2, d3] => { results := [.lit (.bool false)], args := [d1, d2, d3] }
  | _ => none }
def DictTellsWrongFalsely : Prop := dictTellsRow.holds Try.pinned (OpenSpec.ofChange dictTellsWrong)

/-- 'columbarylaw06.DictUpto': WHATEVER THE INPUT: true; the input reads as it did. -/
def dictUptoSpec : ChangeSpec := { name := "dictUpto", fn := fun _ => fun
  | [d1, d2] => { results := [.lit (.bool true)], args := [d1, d2] }
  | _ => none }
def dictUptoRow : OpenClaim := { program := "ytinajnnflgpjbaa", sum := "a9c7c5194de9c40d245d29d378c04564da25e78e8a017d2decd5dbe9acf5b296", func := "columbary/columbarylaw06.DictUpto", spec := "dictUpto", unfollowed := true, recurses := true, apart := false }
def DictUptoSaid : Prop := dictUptoRow.holds Try.pinned (OpenSpec.ofChange dictUptoSpec)

/-- ITS FALSE NEIGHBOUR: 'it returns false'. Refute it at one input. -/
def dictUptoWrong : ChangeSpec := { name := "dictUpto", fn := fun _ => fun
  | [d1, d2] => { results := [.lit (.bool false)], args := [d1, d2] }
  | _ => none }
def DictUptoWrongFalsely : Prop := dictUptoRow.holds Try.pinned (OpenSpec.ofChange dictUptoWrong)

/-- 'columbarylaw06.DictNil': WHATEVER THE INPUT: true; the input reads as it did. -/
def dictNilSpec : ChangeSpec := { name := "dictNil", fn := fun _ => fun
  | [d1, d2] => { results := [.lit (.bool true)], args := [d1, d2] }
  | _ => none }
def dictNilRow : OpenClaim := { program := "ytinajnnflgpjbaa", sum := "a9c7c5194de9c40d245d29d378c04564da25e78e8a017d2decd5dbe9acf5b296", func := "columbary/columbarylaw06.DictNil", spec := "dictNil", unfollowed := true, recurses := true, apart := false }
def DictNilSaid : Prop := dictNilRow.holds Try.pinned (OpenSpec.ofChange dictNilSpec)

/-- ITS FALSE NEIGHBOUR: 'it returns false'. Refute it at one input. -/
def dictNilWrong : ChangeSpec := { name := "dictNil", fn := fun _ => fun
  | [d1, d2] => { results := [.lit (.bool false)], args := [d1, d2] }
  | _ => none }
def DictNilWrongFalsely : Prop := dictNilRow.holds Try.pinned (OpenSpec.ofChange dictNilWrong)

/-- 'columbarylaw06.DictParses': WHATEVER THE INPUT: true; the input reads as it did. -/
def dictParsesSpec : ChangeSpec := { name := "dictParses", fn := fun _ => fun
  | [d] => { results := [.lit (.bool true)], args := [d] }
  | _ => none }
def dictParsesRow : OpenClaim := { program := "ytinajnnflgpjbaa", sum := "a9c7c5194de9c40d245d29d378c04564da25e78e8a017d2decd5dbe9acf5b296", func := "columbary/columbarylaw06.DictParses", spec := "dictParses", unfollowed := true, recurses := true, apart := false }
def DictParsesSaid : Prop := dictParsesRow.holds Try.pinned (OpenSpec.ofChange dictParsesSpec)

/-- ITS FALSE NEIGHBOUR: 'it returns false'. Refute it at one input. -/
def dictParsesWrong : ChangeSpec := { name := "dictParses", fn := fun _ => fun
  | [d] => { results := [.lit (.bool false)], args := [d] }
  | _ => none }
def DictParsesWrongFalsely : Prop := dictParsesRow.holds Try.pinned (OpenSpec.ofChange dictParsesWrong)

/-- 'columbarylaw06.DictOrder': WHATEVER THE INPUT: true; the input reads as it did. -/
def dictOrderSpec : ChangeSpec := { name := "dictOrder", fn := fun _ => fun
  | [d] => { results := [.lit (.bool true)], args := [d] }
  | _ => none }
def dictOrderRow : OpenClaim := { program := "ytinajnnflgpjbaa", sum := "a9c7c5194de9c40d245d29d378c04564da25e78e8a017d2decd5dbe9acf5b296", func := "columbary/columbarylaw06.DictOrder", spec := "dictOrder", unfollowed := true, recurses := true, apart := false }
def DictOrderSaid : Prop := dictOrderRow.holds Try.pinned (OpenSpec.ofChange dictOrderSpec)

/-- ITS FALSE NEIGHBOUR: 'it returns false'. Refute it at one input. -/
def dictOrderWrong : ChangeSpec := { name := "dictOrder", fn := fun _ => fun
  | [d] => { results := [.lit (.bool false)], args := [d] }
  | _ => none }
def DictOrderWrongFalsely : Prop := dictOrderRow.holds Try.pinned (OpenSpec.ofChange dictOrderWrong)

/- THE SECOND FORM. 'bulk': how many values and letters a reading holds, each counted each time it is reached (what is shared counts as often as it is met; a slice's spare places count too). A statement '..UptoSaid' is the law's where the arguments, and the package variables that the reading takes, are together of bulk at most 1048576: NARROWER than '..Said'. Prove '..Said' where nothing that the law and all that it calls make is longer than what came in: it says more and counts as full. Else prove '..UptoSaid'. A law counts once. -/
mutual
def uptoBulk {H : Type} : DataW H → Nat
  | .lit (.string bytes) => bytes.length + 1
  | .lit _ => 1
  | .nil => 1
  | .ptr d => uptoBulk d + 1
  | .slice elems spare => uptoBulkAll elems + uptoBulkAll spare + 1
  | .agg parts => uptoBulkAll parts + 1
  | .iface _ d => uptoBulk d + 1
  | .map entries => uptoBulkEntries entries + 1
  | .held _ => 1
def uptoBulkAll {H : Type} : List (DataW H) → Nat
  | [] => 0
  | d :: r => uptoBulk d + uptoBulkAll r
def uptoBulkEntries {H : Type} : List (Lit × DataW H) → Nat
  | [] => 0
  | x :: r => uptoBulkEntry x + uptoBulkEntries r
def uptoBulkEntry {H : Type} : Lit × DataW H → Nat
  | (.string bytes, d) => bytes.length + uptoBulk d + 1
  | (_, d) => uptoBulk d + 1
 end
def uptoSmall : (H : Type) → List (DataW H) → Bool := fun _ ds => decide (uptoBulkAll ds ≤ 1048576)
def OpenSpec.upto (s : _root_.Go.ChangeSpec) : _root_.Go.OpenSpec := { _root_.Go.OpenSpec.ofChange s with cond := some uptoSmall }

/-- 'columbarylaw12.AggTells', WHERE WHAT IT READS IS OF BULK AT MOST 1048576: true; the input reads as it did. -/
def aggTellsUptoRow : OpenClaim := { program := "ytinajnnflgpjbaa", sum := "a9c7c5194de9c40d245d29d378c04564da25e78e8a017d2decd5dbe9acf5b296", func := "columbary/columbarylaw12.AggTells", spec := "aggTells", apart := false, narrowed := true }
def AggTellsUptoSaid : Prop := aggTellsUptoRow.holds Try.pinned (OpenSpec.upto aggTellsSpec)

/-- 'columbarylaw12.AggOrder', WHERE WHAT IT READS IS OF BULK AT MOST 1048576: true; the input reads as it did. -/
def aggOrderUptoRow : OpenClaim := { program := "ytinajnnflgpjbaa", sum := "a9c7c5194de9c40d245d29d378c04564da25e78e8a017d2decd5dbe9acf5b296", func := "columbary/columbarylaw12.AggOrder", spec := "aggOrder", apart := false, narrowed := true }
def AggOrderUptoSaid : Prop := aggOrderUptoRow.holds Try.pinned (OpenSpec.upto aggOrderSpec)

/-- 'columbarylaw12.AggBounds', WHERE WHAT IT READS IS OF BULK AT MOST 1048576: true; the input reads as it did. -/
def aggBoundsUptoRow : OpenClaim := { program := "ytinajnnflgpjbaa", sum := "a9c7c5194de9c40d245d29d378c04564da25e78e8a017d2decd5dbe9acf5b296", func := "columbary/columbarylaw12.AggBounds", spec := "aggBounds", apart := false, narrowed := true }
def AggBoundsUptoSaid : Prop := aggBoundsUptoRow.holds Try.pinned (OpenSpec.upto aggBoundsSpec)

/-- 'columbarylaw12.AggBoth', WHERE WHAT IT READS IS OF BULK AT MOST 1048576: true; the input reads as it did. -/
def aggBothUptoRow : OpenClaim := { program := "ytinajnnflgpjbaa", sum := "a9c7c5194de9c40d245d29d378c04564da25e78e8a017d2decd5dbe9acf5b296", func := "columbary/columbarylaw12.AggBoth", spec := "aggBoth", apart := false, narrowed := true }
def AggBothUptoSaid : Prop := aggBothUptoRow.holds Try.pinned (OpenSpec.upto aggBothSpec)

/-- 'columbarylaw06.DictTells', WHERE WHAT IT READS IS OF BULK AT MOST 1048576: true; the input reads as it did. -/
def dictTellsUptoRow : OpenClaim := { program := "ytinajnnflgpjbaa", sum := "a9c7c5194de9c40d245d29d378c04564da25e78e8a017d2decd5dbe9acf5b296", func := "columbary/columbarylaw06.DictTells", spec := "dictTells", unfollowed := true, recurses := true, apart := false, narrowed := true }
def DictTellsUptoSaid : Prop := dictTellsUptoRow.holds Try.pinned (OpenSpec.upto dictTellsSpec)

/-- 'columbarylaw06.DictUpto', WHERE WHAT IT READS IS OF BULK AT MOST 1048576: true; the input reads as it did. -/
def dictUptoUptoRow : OpenClaim := { program := "ytinajnnflgpjbaa", sum := "a9c7c5194de9c40d245d29d378c04564da25e78e8a017d2decd5dbe9acf5b296", func := "columbary/columbarylaw06.DictUpto", spec := "dictUpto", unfollowed := true, recurses := true, apart := false, narrowed := true }
def DictUptoUptoSaid : Prop := dictUptoUptoRow.holds Try.pinned (OpenSpec.upto dictUptoSpec)

/-- 'columbarylaw06.DictNil', WHERE WHAT IT READS IS OF BULK AT MOST 1048576: true; the input reads as it did. -/
def dictNilUptoRow : OpenClaim := { program := "ytinajnnflgpjbaa", sum := "a9c7c5194de9c40d245d29d378c04564da25e78e8a017d2decd5dbe9acf5b296", func := "columbary/columbarylaw06.DictNil", spec := "dictNil", unfollowed := true, recurses := true, apart := false, narrowed := true }
def DictNilUptoSaid : Prop := dictNilUptoRow.holds Try.pinned (OpenSpec.upto dictNilSpec)

/-- 'columbarylaw06.DictParses', WHERE WHAT IT READS IS OF BULK AT MOST 1048576: true; the input reads as it did. -/
def dictParsesUptoRow : OpenClaim := { program := "ytinajnnflgpjbaa", sum := "a9c7c5194de9c40d245d29d378c04564da25e78e8a017d2decd5dbe9acf5b296", func := "columbary/columbarylaw06.DictParses", spec := "dictParses", unfollowed := true, recurses := true, apart := false, narrowed := true }
def DictParsesUptoSaid : Prop := dictParsesUptoRow.holds Try.pinned (OpenSpec.upto dictParsesSpec)

/-- 'columbarylaw06.DictOrder', WHERE WHAT IT READS IS OF BULK AT MOST 1048576: true; the input reads as it did. -/
def dictOrderUptoRow : OpenClaim := { program := "ytinajnnflgpjbaa", sum := "a9c7c5194de9c40d245d29d378c04564da25e78e8a017d2decd5dbe9acf5b296", func := "columbary/columbarylaw06.DictOrder", spec := "dictOrder", unfollowed := true, recurses := true, apart := false, narrowed := true }
def DictOrderUptoSaid : Prop := dictOrderUptoRow.holds Try.pinned (OpenSpec.upto dictOrderSpec)

end Rows
end Go.Proofs.Ytinajnnflgpjbaa
