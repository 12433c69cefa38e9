/- YtmhcmpeffhlaeaaGreatVDimW: a text of the proof of this claim, by its prover. -/
import Derived.Test.YtmhcmpeffhlaeaaGreatVRk
import Derived.Test.YtmhcmpeffhlaeaaGreatVDimF
import Derived.Test.YtmhcmpeffhlaeaaGreatVDictB
set_option linter.unusedVariables false
set_option linter.unusedSimpArgs false
set_option maxRecDepth 100000
namespace Go.Proofs.Vale
open Go.Proofs Go.Proofs.YtmhcmpeffhlaeaaGreatT

theorem alive_run : (callK Tryz.prog dimX 100000 100 8 [] Mem.nil).is (.bool true) = true := by kernel_rfl
theorem alive_ok (h : List AObj) : ACall Tryz.prog 8 [] h (fun r _ => r = .bool true) := closedK_any mixedOrdersD dimX_ok 100000 100 8 (.bool true) rfl alive_run h
end Go.Proofs.Vale
