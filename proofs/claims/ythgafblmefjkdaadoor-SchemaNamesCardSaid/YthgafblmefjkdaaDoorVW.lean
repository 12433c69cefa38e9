/- YthgafblmefjkdaaDoorVW: a text of the proof of this claim, by its prover. -/
import Derived.Test.YthgafblmefjkdaaDoorVV
set_option linter.unusedVariables false
set_option linter.unusedSimpArgs false
set_option maxHeartbeats 1000000
namespace Go.Proofs.Vale

/-! ### What isn't known -/
@[go_sem] theorem any_cells : AV.any.cells = [.any] := nrfl rfl
@[go_sem] theorem bin_any (op : BinOp) (y : AV) : bin op .any y = none := by cases y <;> rfl
@[go_sem] theorem eqo_any (P : Program) (t : TypeId) (y : AV) : eqo P t .any y = none := by cases y <;> rfl
@[go_sem] theorem bin_any2 (op : BinOp) (y : AV) : bin op y .any = none := by cases y <;> rfl
@[go_sem] theorem eqo_any2 (P : Program) (t : TypeId) (y : AV) : eqo P t y .any = none := by cases y <;> rfl
@[go_sem] theorem lenA_any (P : Program) (t : TypeId) : lenA P t .any = none := nrfl rfl
end Go.Proofs.Vale
