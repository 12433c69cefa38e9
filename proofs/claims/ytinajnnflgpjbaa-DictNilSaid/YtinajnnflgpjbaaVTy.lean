/- YtinajnnflgpjbaaVTy: a text of the proof of this claim, by its prover. -/
import Derived.Test.YtinajnnflgpjbaaVS
import Derived.Test.YtinajnnflgpjbaaProg
import Derived.KernelRfl
namespace Go.Proofs.YtinajnnflgpjbaaT
open Go.Proofs.Vale Go.Proofs
theorem tk2 : tk Try.prog 2 = .int .i64 := by kernel_rfl
theorem tI2 : tI Try.prog 2 = some (1, false) := by kernel_rfl
theorem un2 : (∃ d, Try.prog.underlying 2 = some d) = True := eq_true ⟨_, tk_int tk2⟩
theorem zI2 : zI Try.prog 2 = some (.int .i64 0) := by kernel_rfl
theorem tk3 : tk Try.prog 3 = .int .i64 := by kernel_rfl
theorem tI3 : tI Try.prog 3 = some (1, false) := by kernel_rfl
theorem un3 : (∃ d, Try.prog.underlying 3 = some d) = True := eq_true ⟨_, tk_int tk3⟩
theorem zI3 : zI Try.prog 3 = some (.int .i64 0) := by kernel_rfl
theorem tk4 : tk Try.prog 4 = .bool := by kernel_rfl
theorem tI4 : tI Try.prog 4 = some (1, false) := by kernel_rfl
theorem zI4 : zI Try.prog 4 = some (.bool false) := by kernel_rfl
theorem tk5 : tk Try.prog 5 = .int .u8 := by kernel_rfl
theorem tI5 : tI Try.prog 5 = some (1, false) := by kernel_rfl
theorem un5 : (∃ d, Try.prog.underlying 5 = some d) = True := eq_true ⟨_, tk_int tk5⟩
theorem zI5 : zI Try.prog 5 = some (.int .u8 0) := by kernel_rfl
theorem tk6 : tk Try.prog 6 = .int .u8 := by kernel_rfl
theorem tI6 : tI Try.prog 6 = some (1, false) := by kernel_rfl
theorem un6 : (∃ d, Try.prog.underlying 6 = some d) = True := eq_true ⟨_, tk_int tk6⟩
theorem zI6 : zI Try.prog 6 = some (.int .u8 0) := by kernel_rfl
theorem tk7 : tk Try.prog 7 = .agg := by kernel_rfl
theorem tI7 : tI Try.prog 7 = some (4, true) := by kernel_rfl
theorem zI7 : zI Try.prog 7 = some (.agg [.int .i64 0, .int .i64 0, .bool false, .int .u8 0]) := by kernel_rfl
theorem fI7_0 : fI Try.prog 7 0 = some (0, 1, false) := by kernel_rfl
theorem fI7_1 : fI Try.prog 7 1 = some (1, 1, false) := by kernel_rfl
theorem fI7_2 : fI Try.prog 7 2 = some (2, 1, false) := by kernel_rfl
theorem fI7_3 : fI Try.prog 7 3 = some (3, 1, false) := by kernel_rfl
theorem bI7 : bI Try.prog 7 = some ([(0, 1), (1, 1), (2, 1), (3, 1)], [.int .i64 0, .int .i64 0, .bool false, .int .u8 0]) := by kernel_rfl
theorem tk8 : tk Try.prog 8 = .agg := by kernel_rfl
theorem tI8 : tI Try.prog 8 = some (4, true) := by kernel_rfl
theorem zI8 : zI Try.prog 8 = some (.agg [.int .i64 0, .int .i64 0, .bool false, .int .u8 0]) := by kernel_rfl
theorem fI8_0 : fI Try.prog 8 0 = some (0, 1, false) := by kernel_rfl
theorem fI8_1 : fI Try.prog 8 1 = some (1, 1, false) := by kernel_rfl
theorem fI8_2 : fI Try.prog 8 2 = some (2, 1, false) := by kernel_rfl
theorem fI8_3 : fI Try.prog 8 3 = some (3, 1, false) := by kernel_rfl
theorem bI8 : bI Try.prog 8 = some ([(0, 1), (1, 1), (2, 1), (3, 1)], [.int .i64 0, .int .i64 0, .bool false, .int .u8 0]) := by kernel_rfl
theorem tk9 : tk Try.prog 9 = .str := by kernel_rfl
theorem tI9 : tI Try.prog 9 = some (1, false) := by kernel_rfl
theorem un9 : (∃ d, Try.prog.underlying 9 = some d) = True := eq_true ⟨_, tk_str tk9⟩
theorem zI9 : zI Try.prog 9 = some (.str []) := by kernel_rfl
theorem tk10 : tk Try.prog 10 = .str := by kernel_rfl
theorem tI10 : tI Try.prog 10 = some (1, false) := by kernel_rfl
theorem un10 : (∃ d, Try.prog.underlying 10 = some d) = True := eq_true ⟨_, tk_str tk10⟩
theorem zI10 : zI Try.prog 10 = some (.str []) := by kernel_rfl
theorem tk11 : tk Try.prog 11 = .str := by kernel_rfl
theorem tI11 : tI Try.prog 11 = some (1, false) := by kernel_rfl
theorem un11 : (∃ d, Try.prog.underlying 11 = some d) = True := eq_true ⟨_, tk_str tk11⟩
theorem zI11 : zI Try.prog 11 = some (.str []) := by kernel_rfl
theorem tk12 : tk Try.prog 12 = .int .u64 := by kernel_rfl
theorem tI12 : tI Try.prog 12 = some (1, false) := by kernel_rfl
theorem un12 : (∃ d, Try.prog.underlying 12 = some d) = True := eq_true ⟨_, tk_int tk12⟩
theorem zI12 : zI Try.prog 12 = some (.int .u64 0) := by kernel_rfl
theorem tk13 : tk Try.prog 13 = .agg := by kernel_rfl
theorem tI13 : tI Try.prog 13 = some (2, true) := by kernel_rfl
theorem zI13 : zI Try.prog 13 = some (.agg [.str [], .int .u64 0]) := by kernel_rfl
theorem fI13_0 : fI Try.prog 13 0 = some (0, 1, false) := by kernel_rfl
theorem fI13_1 : fI Try.prog 13 1 = some (1, 1, false) := by kernel_rfl
theorem bI13 : bI Try.prog 13 = some ([(0, 1), (1, 1)], [.str [], .int .u64 0]) := by kernel_rfl
theorem tk14 : tk Try.prog 14 = .agg := by kernel_rfl
theorem tI14 : tI Try.prog 14 = some (2, true) := by kernel_rfl
theorem zI14 : zI Try.prog 14 = some (.agg [.str [], .int .u64 0]) := by kernel_rfl
theorem fI14_0 : fI Try.prog 14 0 = some (0, 1, false) := by kernel_rfl
theorem fI14_1 : fI Try.prog 14 1 = some (1, 1, false) := by kernel_rfl
theorem bI14 : bI Try.prog 14 = some ([(0, 1), (1, 1)], [.str [], .int .u64 0]) := by kernel_rfl
theorem tk15 : tk Try.prog 15 = .ptr := by kernel_rfl
theorem tI15 : tI Try.prog 15 = some (1, false) := by kernel_rfl
theorem zI15 : zI Try.prog 15 = some (.nilp) := by kernel_rfl
theorem tk16 : tk Try.prog 16 = .ptr := by kernel_rfl
theorem tI16 : tI Try.prog 16 = some (1, false) := by kernel_rfl
theorem zI16 : zI Try.prog 16 = some (.nilp) := by kernel_rfl
theorem tk17 : tk Try.prog 17 = .ptr := by kernel_rfl
theorem tI17 : tI Try.prog 17 = some (1, false) := by kernel_rfl
theorem zI17 : zI Try.prog 17 = some (.nilp) := by kernel_rfl
theorem tk18 : tk Try.prog 18 = .agg := by kernel_rfl
theorem tI18 : tI Try.prog 18 = some (1, true) := by kernel_rfl
theorem zI18 : zI Try.prog 18 = some (.agg [.nilp]) := by kernel_rfl
theorem fI18_0 : fI Try.prog 18 0 = some (0, 1, false) := by kernel_rfl
theorem bI18 : bI Try.prog 18 = some ([(0, 1)], [.nilp]) := by kernel_rfl
theorem tk19 : tk Try.prog 19 = .agg := by kernel_rfl
theorem tI19 : tI Try.prog 19 = some (1, true) := by kernel_rfl
theorem zI19 : zI Try.prog 19 = some (.agg [.nilp]) := by kernel_rfl
theorem fI19_0 : fI Try.prog 19 0 = some (0, 1, false) := by kernel_rfl
theorem bI19 : bI Try.prog 19 = some ([(0, 1)], [.nilp]) := by kernel_rfl
theorem tk20 : tk Try.prog 20 = .iface := by kernel_rfl
theorem tI20 : tI Try.prog 20 = some (1, false) := by kernel_rfl
theorem zI20 : zI Try.prog 20 = some (.nili) := by kernel_rfl
theorem tk21 : tk Try.prog 21 = .int .i32 := by kernel_rfl
theorem tI21 : tI Try.prog 21 = some (1, false) := by kernel_rfl
theorem un21 : (∃ d, Try.prog.underlying 21 = some d) = True := eq_true ⟨_, tk_int tk21⟩
theorem zI21 : zI Try.prog 21 = some (.int .i32 0) := by kernel_rfl
theorem tk22 : tk Try.prog 22 = .agg := by kernel_rfl
theorem tI22 : tI Try.prog 22 = some (3, true) := by kernel_rfl
theorem zI22 : zI Try.prog 22 = some (.agg [.int .i64 0, .int .i64 0, .int .i64 0]) := by kernel_rfl
theorem fI22_0 : fI Try.prog 22 0 = some (0, 1, false) := by kernel_rfl
theorem fI22_1 : fI Try.prog 22 1 = some (1, 1, false) := by kernel_rfl
theorem fI22_2 : fI Try.prog 22 2 = some (2, 1, false) := by kernel_rfl
theorem bI22 : bI Try.prog 22 = some ([(0, 1), (1, 1), (2, 1)], [.int .i64 0, .int .i64 0, .int .i64 0]) := by kernel_rfl
theorem tk23 : tk Try.prog 23 = .agg := by kernel_rfl
theorem tI23 : tI Try.prog 23 = some (3, true) := by kernel_rfl
theorem zI23 : zI Try.prog 23 = some (.agg [.int .i64 0, .int .i64 0, .int .i64 0]) := by kernel_rfl
theorem fI23_0 : fI Try.prog 23 0 = some (0, 1, false) := by kernel_rfl
theorem fI23_1 : fI Try.prog 23 1 = some (1, 1, false) := by kernel_rfl
theorem fI23_2 : fI Try.prog 23 2 = some (2, 1, false) := by kernel_rfl
theorem bI23 : bI Try.prog 23 = some ([(0, 1), (1, 1), (2, 1)], [.int .i64 0, .int .i64 0, .int .i64 0]) := by kernel_rfl
theorem flatI23 : flatI Try.prog 23 = true := by kernel_rfl
theorem flatK23 : flatK Try.prog 23 = [.int .i64, .int .i64, .int .i64] := by kernel_rfl
theorem tk24 : tk Try.prog 24 = .sl 3 := by kernel_rfl
theorem tI24 : tI Try.prog 24 = some (1, false) := by kernel_rfl
theorem un24 : (∃ d, Try.prog.underlying 24 = some d) = True := eq_true ⟨_, tk_sl tk24⟩
theorem zI24 : zI Try.prog 24 = some (.fz true []) := by kernel_rfl
theorem eI24 : eI Try.prog 24 = some (3, 1, 8) := by kernel_rfl
theorem tk26 : tk Try.prog 26 = .int .i64 := by kernel_rfl
theorem tI26 : tI Try.prog 26 = some (1, false) := by kernel_rfl
theorem un26 : (∃ d, Try.prog.underlying 26 = some d) = True := eq_true ⟨_, tk_int tk26⟩
theorem zI26 : zI Try.prog 26 = some (.int .i64 0) := by kernel_rfl
theorem tk37 : tk Try.prog 37 = .sl 9 := by kernel_rfl
theorem tI37 : tI Try.prog 37 = some (1, false) := by kernel_rfl
theorem un37 : (∃ d, Try.prog.underlying 37 = some d) = True := eq_true ⟨_, tk_sl tk37⟩
theorem zI37 : zI Try.prog 37 = some (.fz true []) := by kernel_rfl
theorem eI37 : eI Try.prog 37 = some (9, 1, 16) := by kernel_rfl
theorem tk39 : tk Try.prog 39 = .ptr := by kernel_rfl
theorem tI39 : tI Try.prog 39 = some (1, false) := by kernel_rfl
theorem zI39 : zI Try.prog 39 = some (.nilp) := by kernel_rfl
theorem tk53 : tk Try.prog 53 = .sl 5 := by kernel_rfl
theorem tI53 : tI Try.prog 53 = some (1, false) := by kernel_rfl
theorem un53 : (∃ d, Try.prog.underlying 53 = some d) = True := eq_true ⟨_, tk_sl tk53⟩
theorem zI53 : zI Try.prog 53 = some (.fz true []) := by kernel_rfl
theorem eI53 : eI Try.prog 53 = some (5, 1, 1) := by kernel_rfl
theorem tk70 : tk Try.prog 70 = .agg := by kernel_rfl
theorem tI70 : tI Try.prog 70 = some (1, true) := by kernel_rfl
theorem zI70 : zI Try.prog 70 = some (.agg [.fz true []]) := by kernel_rfl
theorem fI70_0 : fI Try.prog 70 0 = some (0, 1, false) := by kernel_rfl
theorem bI70 : bI Try.prog 70 = some ([(0, 1)], [.fz true []]) := by kernel_rfl
theorem tk71 : tk Try.prog 71 = .agg := by kernel_rfl
theorem tI71 : tI Try.prog 71 = some (1, true) := by kernel_rfl
theorem zI71 : zI Try.prog 71 = some (.agg [.fz true []]) := by kernel_rfl
theorem fI71_0 : fI Try.prog 71 0 = some (0, 1, false) := by kernel_rfl
theorem bI71 : bI Try.prog 71 = some ([(0, 1)], [.fz true []]) := by kernel_rfl
theorem tk80 : tk Try.prog 80 = .ptr := by kernel_rfl
theorem tI80 : tI Try.prog 80 = some (1, false) := by kernel_rfl
theorem zI80 : zI Try.prog 80 = some (.nilp) := by kernel_rfl
theorem tk86 : tk Try.prog 86 = .ptr := by kernel_rfl
theorem tI86 : tI Try.prog 86 = some (1, false) := by kernel_rfl
theorem zI86 : zI Try.prog 86 = some (.nilp) := by kernel_rfl
theorem tk87 : tk Try.prog 87 = .agg := by kernel_rfl
theorem tI87 : tI Try.prog 87 = some (3, true) := by kernel_rfl
theorem zI87 : zI Try.prog 87 = some (.agg [.fz true [], .int .i64 0, .bool false]) := by kernel_rfl
theorem fI87_0 : fI Try.prog 87 0 = some (0, 1, false) := by kernel_rfl
theorem fI87_1 : fI Try.prog 87 1 = some (1, 1, false) := by kernel_rfl
theorem fI87_2 : fI Try.prog 87 2 = some (2, 1, false) := by kernel_rfl
theorem bI87 : bI Try.prog 87 = some ([(0, 1), (1, 1), (2, 1)], [.fz true [], .int .i64 0, .bool false]) := by kernel_rfl
theorem tk88 : tk Try.prog 88 = .agg := by kernel_rfl
theorem tI88 : tI Try.prog 88 = some (3, true) := by kernel_rfl
theorem zI88 : zI Try.prog 88 = some (.agg [.fz true [], .int .i64 0, .bool false]) := by kernel_rfl
theorem fI88_0 : fI Try.prog 88 0 = some (0, 1, false) := by kernel_rfl
theorem fI88_1 : fI Try.prog 88 1 = some (1, 1, false) := by kernel_rfl
theorem fI88_2 : fI Try.prog 88 2 = some (2, 1, false) := by kernel_rfl
theorem bI88 : bI Try.prog 88 = some ([(0, 1), (1, 1), (2, 1)], [.fz true [], .int .i64 0, .bool false]) := by kernel_rfl
theorem tk93 : tk Try.prog 93 = .int .u64 := by kernel_rfl
theorem tI93 : tI Try.prog 93 = some (1, false) := by kernel_rfl
theorem un93 : (∃ d, Try.prog.underlying 93 = some d) = True := eq_true ⟨_, tk_int tk93⟩
theorem zI93 : zI Try.prog 93 = some (.int .u64 0) := by kernel_rfl
theorem tk96 : tk Try.prog 96 = .int .u64 := by kernel_rfl
theorem tI96 : tI Try.prog 96 = some (1, false) := by kernel_rfl
theorem un96 : (∃ d, Try.prog.underlying 96 = some d) = True := eq_true ⟨_, tk_int tk96⟩
theorem zI96 : zI Try.prog 96 = some (.int .u64 0) := by kernel_rfl
theorem tk98 : tk Try.prog 98 = .sl 37 := by kernel_rfl
theorem tI98 : tI Try.prog 98 = some (1, false) := by kernel_rfl
theorem un98 : (∃ d, Try.prog.underlying 98 = some d) = True := eq_true ⟨_, tk_sl tk98⟩
theorem zI98 : zI Try.prog 98 = some (.fz true []) := by kernel_rfl
theorem eI98 : eI Try.prog 98 = some (37, 1, 24) := by kernel_rfl
theorem tk101 : tk Try.prog 101 = .agg := by kernel_rfl
theorem tI101 : tI Try.prog 101 = some (1, true) := by kernel_rfl
theorem zI101 : zI Try.prog 101 = some (.agg [.fz true []]) := by kernel_rfl
theorem fI101_0 : fI Try.prog 101 0 = some (0, 1, false) := by kernel_rfl
theorem bI101 : bI Try.prog 101 = some ([(0, 1)], [.fz true []]) := by kernel_rfl
theorem tk102 : tk Try.prog 102 = .agg := by kernel_rfl
theorem tI102 : tI Try.prog 102 = some (1, true) := by kernel_rfl
theorem zI102 : zI Try.prog 102 = some (.agg [.fz true []]) := by kernel_rfl
theorem fI102_0 : fI Try.prog 102 0 = some (0, 1, false) := by kernel_rfl
theorem bI102 : bI Try.prog 102 = some ([(0, 1)], [.fz true []]) := by kernel_rfl
theorem tk106 : tk Try.prog 106 = .int .i64 := by kernel_rfl
theorem tI106 : tI Try.prog 106 = some (1, false) := by kernel_rfl
theorem un106 : (∃ d, Try.prog.underlying 106 = some d) = True := eq_true ⟨_, tk_int tk106⟩
theorem zI106 : zI Try.prog 106 = some (.int .i64 0) := by kernel_rfl
theorem tk113 : tk Try.prog 113 = .int .u32 := by kernel_rfl
theorem tI113 : tI Try.prog 113 = some (1, false) := by kernel_rfl
theorem un113 : (∃ d, Try.prog.underlying 113 = some d) = True := eq_true ⟨_, tk_int tk113⟩
theorem zI113 : zI Try.prog 113 = some (.int .u32 0) := by kernel_rfl
theorem tk117 : tk Try.prog 117 = .int .u64 := by kernel_rfl
theorem tI117 : tI Try.prog 117 = some (1, false) := by kernel_rfl
theorem un117 : (∃ d, Try.prog.underlying 117 = some d) = True := eq_true ⟨_, tk_int tk117⟩
theorem zI117 : zI Try.prog 117 = some (.int .u64 0) := by kernel_rfl
theorem tk121 : tk Try.prog 121 = .ptr := by kernel_rfl
theorem tI121 : tI Try.prog 121 = some (1, false) := by kernel_rfl
theorem zI121 : zI Try.prog 121 = some (.nilp) := by kernel_rfl
theorem tk123 : tk Try.prog 123 = .ptr := by kernel_rfl
theorem tI123 : tI Try.prog 123 = some (1, false) := by kernel_rfl
theorem zI123 : zI Try.prog 123 = some (.nilp) := by kernel_rfl
theorem tk126 : tk Try.prog 126 = .agg := by kernel_rfl
theorem tI126 : tI Try.prog 126 = some (4, true) := by kernel_rfl
theorem zI126 : zI Try.prog 126 = some (.agg [.nilp, .nilp, .nilp, .str []]) := by kernel_rfl
theorem fI126_0 : fI Try.prog 126 0 = some (0, 1, false) := by kernel_rfl
theorem fI126_1 : fI Try.prog 126 1 = some (1, 1, false) := by kernel_rfl
theorem fI126_2 : fI Try.prog 126 2 = some (2, 1, false) := by kernel_rfl
theorem fI126_3 : fI Try.prog 126 3 = some (3, 1, false) := by kernel_rfl
theorem bI126 : bI Try.prog 126 = some ([(0, 1), (1, 1), (2, 1), (3, 1)], [.nilp, .nilp, .nilp, .str []]) := by kernel_rfl
theorem tk127 : tk Try.prog 127 = .agg := by kernel_rfl
theorem tI127 : tI Try.prog 127 = some (4, true) := by kernel_rfl
theorem zI127 : zI Try.prog 127 = some (.agg [.nilp, .nilp, .nilp, .str []]) := by kernel_rfl
theorem fI127_0 : fI Try.prog 127 0 = some (0, 1, false) := by kernel_rfl
theorem fI127_1 : fI Try.prog 127 1 = some (1, 1, false) := by kernel_rfl
theorem fI127_2 : fI Try.prog 127 2 = some (2, 1, false) := by kernel_rfl
theorem fI127_3 : fI Try.prog 127 3 = some (3, 1, false) := by kernel_rfl
theorem bI127 : bI Try.prog 127 = some ([(0, 1), (1, 1), (2, 1), (3, 1)], [.nilp, .nilp, .nilp, .str []]) := by kernel_rfl
theorem tk128 : tk Try.prog 128 = .agg := by kernel_rfl
theorem tI128 : tI Try.prog 128 = some (0, true) := by kernel_rfl
theorem zI128 : zI Try.prog 128 = some (.agg []) := by kernel_rfl
theorem aI128 : aI Try.prog 128 = some (0, 1, false) := by kernel_rfl
theorem tk129 : tk Try.prog 129 = .agg := by kernel_rfl
theorem tI129 : tI Try.prog 129 = some (0, true) := by kernel_rfl
theorem zI129 : zI Try.prog 129 = some (.agg []) := by kernel_rfl
theorem bI129 : bI Try.prog 129 = some ([(0, 0)], []) := by kernel_rfl
theorem tk130 : tk Try.prog 130 = .agg := by kernel_rfl
theorem tI130 : tI Try.prog 130 = some (0, true) := by kernel_rfl
theorem zI130 : zI Try.prog 130 = some (.agg []) := by kernel_rfl
theorem bI130 : bI Try.prog 130 = some ([(0, 0)], []) := by kernel_rfl
theorem tk131 : tk Try.prog 131 = .int .u8 := by kernel_rfl
theorem tI131 : tI Try.prog 131 = some (1, false) := by kernel_rfl
theorem un131 : (∃ d, Try.prog.underlying 131 = some d) = True := eq_true ⟨_, tk_int tk131⟩
theorem zI131 : zI Try.prog 131 = some (.int .u8 0) := by kernel_rfl
theorem tk132 : tk Try.prog 132 = .int .u8 := by kernel_rfl
theorem tI132 : tI Try.prog 132 = some (1, false) := by kernel_rfl
theorem un132 : (∃ d, Try.prog.underlying 132 = some d) = True := eq_true ⟨_, tk_int tk132⟩
theorem zI132 : zI Try.prog 132 = some (.int .u8 0) := by kernel_rfl
theorem tk134 : tk Try.prog 134 = .ptr := by kernel_rfl
theorem tI134 : tI Try.prog 134 = some (1, false) := by kernel_rfl
theorem zI134 : zI Try.prog 134 = some (.nilp) := by kernel_rfl
theorem tk135 : tk Try.prog 135 = .int .i32 := by kernel_rfl
theorem tI135 : tI Try.prog 135 = some (1, false) := by kernel_rfl
theorem un135 : (∃ d, Try.prog.underlying 135 = some d) = True := eq_true ⟨_, tk_int tk135⟩
theorem zI135 : zI Try.prog 135 = some (.int .i32 0) := by kernel_rfl
theorem tk136 : tk Try.prog 136 = .int .i32 := by kernel_rfl
theorem tI136 : tI Try.prog 136 = some (1, false) := by kernel_rfl
theorem un136 : (∃ d, Try.prog.underlying 136 = some d) = True := eq_true ⟨_, tk_int tk136⟩
theorem zI136 : zI Try.prog 136 = some (.int .i32 0) := by kernel_rfl
theorem tk137 : tk Try.prog 137 = .agg := by kernel_rfl
theorem tI137 : tI Try.prog 137 = some (11, true) := by kernel_rfl
theorem zI137 : zI Try.prog 137 = some (.agg [.int .u64 0, .int .u64 0, .int .u32 0, .int .u8 0, .int .u8 0, .int .u8 0, .int .u8 0, .nilf, .nilp, .int .i32 0, .int .i32 0]) := by kernel_rfl
theorem fI137_0 : fI Try.prog 137 0 = some (0, 1, false) := by kernel_rfl
theorem fI137_1 : fI Try.prog 137 1 = some (1, 1, false) := by kernel_rfl
theorem fI137_2 : fI Try.prog 137 2 = some (2, 1, false) := by kernel_rfl
theorem fI137_3 : fI Try.prog 137 3 = some (3, 1, false) := by kernel_rfl
theorem fI137_4 : fI Try.prog 137 4 = some (4, 1, false) := by kernel_rfl
theorem fI137_5 : fI Try.prog 137 5 = some (5, 1, false) := by kernel_rfl
theorem fI137_6 : fI Try.prog 137 6 = some (6, 1, false) := by kernel_rfl
theorem fI137_7 : fI Try.prog 137 7 = some (7, 1, false) := by kernel_rfl
theorem fI137_8 : fI Try.prog 137 8 = some (8, 1, false) := by kernel_rfl
theorem fI137_9 : fI Try.prog 137 9 = some (9, 1, false) := by kernel_rfl
theorem fI137_10 : fI Try.prog 137 10 = some (10, 1, false) := by kernel_rfl
theorem bI137 : bI Try.prog 137 = some ([(0, 1), (1, 1), (2, 1), (3, 1), (4, 1), (5, 1), (6, 1), (7, 1), (8, 1), (9, 1), (10, 1)], [.int .u64 0, .int .u64 0, .int .u32 0, .int .u8 0, .int .u8 0, .int .u8 0, .int .u8 0, .nilf, .nilp, .int .i32 0, .int .i32 0]) := by kernel_rfl
theorem tk138 : tk Try.prog 138 = .agg := by kernel_rfl
theorem tI138 : tI Try.prog 138 = some (11, true) := by kernel_rfl
theorem zI138 : zI Try.prog 138 = some (.agg [.int .u64 0, .int .u64 0, .int .u32 0, .int .u8 0, .int .u8 0, .int .u8 0, .int .u8 0, .nilf, .nilp, .int .i32 0, .int .i32 0]) := by kernel_rfl
theorem fI138_0 : fI Try.prog 138 0 = some (0, 1, false) := by kernel_rfl
theorem fI138_1 : fI Try.prog 138 1 = some (1, 1, false) := by kernel_rfl
theorem fI138_2 : fI Try.prog 138 2 = some (2, 1, false) := by kernel_rfl
theorem fI138_3 : fI Try.prog 138 3 = some (3, 1, false) := by kernel_rfl
theorem fI138_4 : fI Try.prog 138 4 = some (4, 1, false) := by kernel_rfl
theorem fI138_5 : fI Try.prog 138 5 = some (5, 1, false) := by kernel_rfl
theorem fI138_6 : fI Try.prog 138 6 = some (6, 1, false) := by kernel_rfl
theorem fI138_7 : fI Try.prog 138 7 = some (7, 1, false) := by kernel_rfl
theorem fI138_8 : fI Try.prog 138 8 = some (8, 1, false) := by kernel_rfl
theorem fI138_9 : fI Try.prog 138 9 = some (9, 1, false) := by kernel_rfl
theorem fI138_10 : fI Try.prog 138 10 = some (10, 1, false) := by kernel_rfl
theorem bI138 : bI Try.prog 138 = some ([(0, 1), (1, 1), (2, 1), (3, 1), (4, 1), (5, 1), (6, 1), (7, 1), (8, 1), (9, 1), (10, 1)], [.int .u64 0, .int .u64 0, .int .u32 0, .int .u8 0, .int .u8 0, .int .u8 0, .int .u8 0, .nilf, .nilp, .int .i32 0, .int .i32 0]) := by kernel_rfl
theorem en3 : entersB Try.prog 3 = true := by kernel_rfl
theorem en4 : entersB Try.prog 4 = true := by kernel_rfl
theorem en5 : entersB Try.prog 5 = true := by kernel_rfl
theorem en6 : entersB Try.prog 6 = true := by kernel_rfl
theorem en7 : entersB Try.prog 7 = true := by kernel_rfl
theorem en8 : entersB Try.prog 8 = true := by kernel_rfl
theorem en9 : entersB Try.prog 9 = true := by kernel_rfl
theorem en10 : entersB Try.prog 10 = true := by kernel_rfl
theorem en11 : entersB Try.prog 11 = true := by kernel_rfl
theorem en12 : entersB Try.prog 12 = true := by kernel_rfl
theorem en13 : entersB Try.prog 13 = true := by kernel_rfl
theorem en14 : entersB Try.prog 14 = true := by kernel_rfl
theorem en15 : entersB Try.prog 15 = true := by kernel_rfl
theorem en16 : entersB Try.prog 16 = true := by kernel_rfl
theorem en17 : entersB Try.prog 17 = true := by kernel_rfl
theorem en18 : entersB Try.prog 18 = true := by kernel_rfl
theorem en19 : entersB Try.prog 19 = true := by kernel_rfl
theorem en20 : entersB Try.prog 20 = true := by kernel_rfl
theorem en21 : entersB Try.prog 21 = true := by kernel_rfl
theorem en22 : entersB Try.prog 22 = true := by kernel_rfl
theorem en23 : entersB Try.prog 23 = true := by kernel_rfl
theorem en24 : entersB Try.prog 24 = true := by kernel_rfl
theorem en25 : entersB Try.prog 25 = true := by kernel_rfl
theorem en26 : entersB Try.prog 26 = true := by kernel_rfl
theorem en27 : entersB Try.prog 27 = true := by kernel_rfl
theorem en28 : entersB Try.prog 28 = true := by kernel_rfl
theorem en29 : entersB Try.prog 29 = true := by kernel_rfl
theorem en30 : entersB Try.prog 30 = true := by kernel_rfl
theorem en31 : entersB Try.prog 31 = true := by kernel_rfl
theorem en32 : entersB Try.prog 32 = true := by kernel_rfl
theorem en33 : entersB Try.prog 33 = true := by kernel_rfl
theorem en34 : entersB Try.prog 34 = true := by kernel_rfl
theorem en35 : entersB Try.prog 35 = true := by kernel_rfl
theorem en36 : entersB Try.prog 36 = true := by kernel_rfl
theorem en37 : entersB Try.prog 37 = true := by kernel_rfl
theorem en38 : entersB Try.prog 38 = true := by kernel_rfl
theorem en39 : entersB Try.prog 39 = true := by kernel_rfl
theorem en40 : entersB Try.prog 40 = true := by kernel_rfl
theorem en41 : entersB Try.prog 41 = true := by kernel_rfl
theorem en42 : entersB Try.prog 42 = true := by kernel_rfl
theorem en43 : entersB Try.prog 43 = true := by kernel_rfl
theorem en44 : entersB Try.prog 44 = true := by kernel_rfl
theorem en45 : entersB Try.prog 45 = true := by kernel_rfl
theorem en46 : entersB Try.prog 46 = true := by kernel_rfl
theorem en47 : entersB Try.prog 47 = true := by kernel_rfl
theorem en48 : entersB Try.prog 48 = true := by kernel_rfl
theorem en49 : entersB Try.prog 49 = true := by kernel_rfl
theorem en50 : entersB Try.prog 50 = true := by kernel_rfl
theorem en51 : entersB Try.prog 51 = true := by kernel_rfl
theorem en52 : entersB Try.prog 52 = true := by kernel_rfl
theorem en53 : entersB Try.prog 53 = true := by kernel_rfl
theorem en54 : entersB Try.prog 54 = true := by kernel_rfl
theorem en55 : entersB Try.prog 55 = true := by kernel_rfl
theorem en56 : entersB Try.prog 56 = true := by kernel_rfl
theorem en57 : entersB Try.prog 57 = true := by kernel_rfl
theorem en58 : entersB Try.prog 58 = true := by kernel_rfl
theorem en59 : entersB Try.prog 59 = true := by kernel_rfl
theorem en60 : entersB Try.prog 60 = true := by kernel_rfl
theorem en61 : entersB Try.prog 61 = true := by kernel_rfl
theorem en62 : entersB Try.prog 62 = true := by kernel_rfl
theorem en63 : entersB Try.prog 63 = true := by kernel_rfl
theorem en64 : entersB Try.prog 64 = true := by kernel_rfl
theorem en65 : entersB Try.prog 65 = true := by kernel_rfl
theorem en66 : entersB Try.prog 66 = true := by kernel_rfl
theorem en67 : entersB Try.prog 67 = true := by kernel_rfl
theorem en68 : entersB Try.prog 68 = true := by kernel_rfl
theorem en69 : entersB Try.prog 69 = true := by kernel_rfl
theorem en70 : entersB Try.prog 70 = true := by kernel_rfl
theorem en71 : entersB Try.prog 71 = true := by kernel_rfl
theorem en72 : entersB Try.prog 72 = true := by kernel_rfl
theorem en73 : entersB Try.prog 73 = true := by kernel_rfl
theorem en74 : entersB Try.prog 74 = true := by kernel_rfl
theorem en75 : entersB Try.prog 75 = true := by kernel_rfl
theorem en76 : entersB Try.prog 76 = true := by kernel_rfl
theorem en77 : entersB Try.prog 77 = true := by kernel_rfl
theorem en78 : entersB Try.prog 78 = true := by kernel_rfl
theorem en79 : entersB Try.prog 79 = true := by kernel_rfl
theorem en80 : entersB Try.prog 80 = true := by kernel_rfl
theorem en81 : entersB Try.prog 81 = true := by kernel_rfl
theorem en82 : entersB Try.prog 82 = true := by kernel_rfl
theorem en83 : entersB Try.prog 83 = true := by kernel_rfl
theorem en84 : entersB Try.prog 84 = true := by kernel_rfl
theorem en85 : entersB Try.prog 85 = true := by kernel_rfl
theorem en86 : entersB Try.prog 86 = true := by kernel_rfl
theorem en87 : entersB Try.prog 87 = true := by kernel_rfl
theorem en88 : entersB Try.prog 88 = true := by kernel_rfl
theorem en89 : entersB Try.prog 89 = true := by kernel_rfl
theorem en90 : entersB Try.prog 90 = true := by kernel_rfl
theorem en91 : entersB Try.prog 91 = true := by kernel_rfl
theorem en92 : entersB Try.prog 92 = true := by kernel_rfl
theorem en93 : entersB Try.prog 93 = true := by kernel_rfl
theorem en94 : entersB Try.prog 94 = true := by kernel_rfl
theorem en95 : entersB Try.prog 95 = true := by kernel_rfl
theorem en96 : entersB Try.prog 96 = true := by kernel_rfl
attribute [go_sem] tk2 tI2 un2 zI2 tk3 tI3 un3 zI3 tk4 tI4 zI4 tk5 tI5 un5 zI5 tk6 tI6 un6 zI6 tk7 tI7 zI7 fI7_0 fI7_1 fI7_2 fI7_3 bI7 tk8 tI8 zI8 fI8_0 fI8_1 fI8_2 fI8_3 bI8 tk9 tI9 un9 zI9 tk10 tI10 un10 zI10 tk11 tI11 un11 zI11 tk12 tI12 un12 zI12 tk13 tI13 zI13 fI13_0 fI13_1 bI13 tk14 tI14 zI14 fI14_0 fI14_1 bI14 tk15 tI15 zI15 tk16 tI16 zI16 tk17 tI17 zI17 tk18 tI18 zI18 fI18_0 bI18 tk19 tI19 zI19 fI19_0 bI19 tk20 tI20 zI20 tk21 tI21 un21 zI21 tk22 tI22 zI22 fI22_0 fI22_1 fI22_2 bI22 tk23 tI23 zI23 fI23_0 fI23_1 fI23_2 bI23 flatI23 flatK23 tk24 tI24 un24 zI24 eI24 tk26 tI26 un26 zI26 tk37 tI37 un37 zI37 eI37 tk39 tI39 zI39 tk53 tI53 un53 zI53 eI53 tk70 tI70 zI70 fI70_0 bI70 tk71 tI71 zI71 fI71_0 bI71 tk80 tI80 zI80 tk86 tI86 zI86 tk87 tI87 zI87 fI87_0 fI87_1 fI87_2 bI87 tk88 tI88 zI88 fI88_0 fI88_1 fI88_2 bI88 tk93 tI93 un93 zI93 tk96 tI96 un96 zI96 tk98 tI98 un98 zI98 eI98 tk101 tI101 zI101 fI101_0 bI101 tk102 tI102 zI102 fI102_0 bI102 tk106 tI106 un106 zI106 tk113 tI113 un113 zI113 tk117 tI117 un117 zI117 tk121 tI121 zI121 tk123 tI123 zI123 tk126 tI126 zI126 fI126_0 fI126_1 fI126_2 fI126_3 bI126 tk127 tI127 zI127 fI127_0 fI127_1 fI127_2 fI127_3 bI127 tk128 tI128 zI128 aI128 tk129 tI129 zI129 bI129 tk130 tI130 zI130 bI130 tk131 tI131 un131 zI131 tk132 tI132 un132 zI132 tk134 tI134 zI134 tk135 tI135 un135 zI135 tk136 tI136 un136 zI136 tk137 tI137 zI137 fI137_0 fI137_1 fI137_2 fI137_3 fI137_4 fI137_5 fI137_6 fI137_7 fI137_8 fI137_9 fI137_10 bI137 tk138 tI138 zI138 fI138_0 fI138_1 fI138_2 fI138_3 fI138_4 fI138_5 fI138_6 fI138_7 fI138_8 fI138_9 fI138_10 bI138 en3 en4 en5 en6 en7 en8 en9 en10 en11 en12 en13 en14 en15 en16 en17 en18 en19 en20 en21 en22 en23 en24 en25 en26 en27 en28 en29 en30 en31 en32 en33 en34 en35 en36 en37 en38 en39 en40 en41 en42 en43 en44 en45 en46 en47 en48 en49 en50 en51 en52 en53 en54 en55 en56 en57 en58 en59 en60 en61 en62 en63 en64 en65 en66 en67 en68 en69 en70 en71 en72 en73 en74 en75 en76 en77 en78 en79 en80 en81 en82 en83 en84 en85 en86 en87 en88 en89 en90 en91 en92 en93 en94 en95 en96
end Go.Proofs.YtinajnnflgpjbaaT
