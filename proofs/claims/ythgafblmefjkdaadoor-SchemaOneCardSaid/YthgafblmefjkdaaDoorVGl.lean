/- YthgafblmefjkdaaDoorVGl: a text of the proof of this claim, by its prover. -/
import Derived.Calls
import Derived.Lib.Space
namespace Go.Proofs.Vale

/-- The package-level variables that are told of, with their cells: each seat has its own list. -/
def tabs : List (Nat × Array Value) := [(0, (Lib.asciiSpaceTab.map fun z => Value.int .u8 z).toArray)]

end Go.Proofs.Vale
