/- YtplehleekabbaaaGreatDoorVGl: a text of the proof of this claim, by its prover. -/
import Derived.Calls
import Derived.Lib.Space
import Derived.Lib.ItoaNum
namespace Go.Proofs.Vale

/-- A variable of an interface type: nil, or some value. -/
def errP (cs : Array Value) : Prop := ∃ ev, cs[0]? = some ev ∧ (ev = .nilIface ∨ ∃ te pe, ev = .iface te pe)
/-- Which bytes are blanks: the library's table. -/
def spaceP (cs : Array Value) : Prop := cs = (Lib.asciiSpaceTab.map fun z => Value.int .u8 z).toArray
/-- Some whole number. -/
def intP (cs : Array Value) : Prop := ∃ m : Int, cs[0]? = some (.int .i64 m)
/-- The powers of ten. -/
def powP (cs : Array Value) : Prop := cs = (Lib.pow10Tab.map fun z => Value.int .u64 z).toArray
/-- The package-level variables that are told of, with what is told of their cells: each seat has its own list. -/
def tabs : List (Nat × (Array Value → Prop)) := [(0, spaceP), (3, intP), (2, powP)]

end Go.Proofs.Vale
