/- YtplehleekabbaaaGreatDoorVIngW: a text of the proof of this claim, by its prover. -/
import Derived.Test.YtplehleekabbaaaGreatDoorVIngV
import Derived.Test.YtplehleekabbaaaGreatDoorVRk
set_option linter.unusedVariables false
set_option linter.unusedSimpArgs false
set_option maxRecDepth 100000
namespace Go.Proofs.Vale
open Go.Proofs Go.Proofs.YtplehleekabbaaaGreatDoorT

theorem alive_run : (callK Tryz.prog ingX 100000 100 10 [] Mem.nil).is (.bool true) = true := by kernel_rfl
theorem alive_ok (h : List AObj) : ACall Tryz.prog 10 [] h (fun r _ => r = .bool true) := closedK_any mixedOrdersD ingX_ok 100000 100 10 (.bool true) rfl alive_run h
end Go.Proofs.Vale
