/- YtmhcmpeffhlaeaaGreatVGl: a text of the proof of this claim, by its prover. -/
import Derived.Calls
import Derived.Lib.Space
namespace Go.Proofs.Vale

/-- A variable of an interface type: nil, or some value. -/
def errP (cs : Array Value) : Prop := ∃ ev, cs[0]? = some ev ∧ (ev = .nilIface ∨ ∃ te pe, ev = .iface te pe)
/-- The package-level variables that are told of, with what is told of their cells: each seat has its own list. -/
def tabs : List (Nat × (Array Value → Prop)) := []

end Go.Proofs.Vale
