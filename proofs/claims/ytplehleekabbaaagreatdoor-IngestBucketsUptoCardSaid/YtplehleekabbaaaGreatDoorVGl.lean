/- YtplehleekabbaaaGreatDoorVGl: a text of the proof of this claim, by its prover. -/
import Derived.Calls
import Derived.Lib.Space
import Derived.Lib.ItoaNum
namespace Go.Proofs.Vale
theorem uM (h:Decidable True):@decide True h=true:=decide_true h
theorem uN (h:Decidable False):@decide False h=false:=decide_false h
theorem uP (p:Prop):(False→p)↔True:=false_imp_iff p
def spaceP (cs:Array Value):Prop:=cs=(Lib.asciiSpaceTab.map fun z=>Value.int .u8 z).toArray
def intP (cs:Array Value):Prop:=∃ m:Int,cs[0]? = some (.int .i64 m)
def powP (cs:Array Value):Prop:=cs=(Lib.pow10Tab.map fun z=>Value.int .u64 z).toArray
def tabs:List (Nat × (Array Value→Prop)):=[(0,spaceP),(3,intP),(2,powP)]
end Go.Proofs.Vale
