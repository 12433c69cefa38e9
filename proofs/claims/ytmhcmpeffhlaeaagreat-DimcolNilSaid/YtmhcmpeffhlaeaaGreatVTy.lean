/- YtmhcmpeffhlaeaaGreatVTy: a text of the proof of this claim, by its prover. -/
import Derived.Test.YtmhcmpeffhlaeaaGreatVS
import Derived.Test.YtmhcmpeffhlaeaaGreatProg
import Derived.KernelRfl
namespace Go.Proofs.YtmhcmpeffhlaeaaGreatT
open Go.Proofs.Vale Go.Proofs
theorem tk2 : tk Tryz.prog 2 = .int .i64 := by kernel_rfl
theorem tI2 : tI Tryz.prog 2 = some (1, false) := by kernel_rfl
theorem un2 : (∃ d, Tryz.prog.underlying 2 = some d) = True := eq_true ⟨_, tk_int tk2⟩
theorem zI2 : zI Tryz.prog 2 = some (.int .i64 0) := by kernel_rfl
theorem tk3 : tk Tryz.prog 3 = .int .i64 := by kernel_rfl
theorem tI3 : tI Tryz.prog 3 = some (1, false) := by kernel_rfl
theorem un3 : (∃ d, Tryz.prog.underlying 3 = some d) = True := eq_true ⟨_, tk_int tk3⟩
theorem zI3 : zI Tryz.prog 3 = some (.int .i64 0) := by kernel_rfl
theorem tk4 : tk Tryz.prog 4 = .bool := by kernel_rfl
theorem tI4 : tI Tryz.prog 4 = some (1, false) := by kernel_rfl
theorem zI4 : zI Tryz.prog 4 = some (.bool false) := by kernel_rfl
theorem tk5 : tk Tryz.prog 5 = .int .u8 := by kernel_rfl
theorem tI5 : tI Tryz.prog 5 = some (1, false) := by kernel_rfl
theorem un5 : (∃ d, Tryz.prog.underlying 5 = some d) = True := eq_true ⟨_, tk_int tk5⟩
theorem zI5 : zI Tryz.prog 5 = some (.int .u8 0) := by kernel_rfl
theorem tk6 : tk Tryz.prog 6 = .int .u8 := by kernel_rfl
theorem tI6 : tI Tryz.prog 6 = some (1, false) := by kernel_rfl
theorem un6 : (∃ d, Tryz.prog.underlying 6 = some d) = True := eq_true ⟨_, tk_int tk6⟩
theorem zI6 : zI Tryz.prog 6 = some (.int .u8 0) := by kernel_rfl
theorem tk7 : tk Tryz.prog 7 = .agg := by kernel_rfl
theorem tI7 : tI Tryz.prog 7 = some (4, true) := by kernel_rfl
theorem zI7 : zI Tryz.prog 7 = some (.agg [.int .i64 0, .int .i64 0, .bool false, .int .u8 0]) := by kernel_rfl
theorem fI7_0 : fI Tryz.prog 7 0 = some (0, 1, false) := by kernel_rfl
theorem fI7_1 : fI Tryz.prog 7 1 = some (1, 1, false) := by kernel_rfl
theorem fI7_2 : fI Tryz.prog 7 2 = some (2, 1, false) := by kernel_rfl
theorem fI7_3 : fI Tryz.prog 7 3 = some (3, 1, false) := by kernel_rfl
theorem bI7 : bI Tryz.prog 7 = some ([(0, 1), (1, 1), (2, 1), (3, 1)], [.int .i64 0, .int .i64 0, .bool false, .int .u8 0]) := by kernel_rfl
theorem tk8 : tk Tryz.prog 8 = .agg := by kernel_rfl
theorem tI8 : tI Tryz.prog 8 = some (4, true) := by kernel_rfl
theorem zI8 : zI Tryz.prog 8 = some (.agg [.int .i64 0, .int .i64 0, .bool false, .int .u8 0]) := by kernel_rfl
theorem fI8_0 : fI Tryz.prog 8 0 = some (0, 1, false) := by kernel_rfl
theorem fI8_1 : fI Tryz.prog 8 1 = some (1, 1, false) := by kernel_rfl
theorem fI8_2 : fI Tryz.prog 8 2 = some (2, 1, false) := by kernel_rfl
theorem fI8_3 : fI Tryz.prog 8 3 = some (3, 1, false) := by kernel_rfl
theorem bI8 : bI Tryz.prog 8 = some ([(0, 1), (1, 1), (2, 1), (3, 1)], [.int .i64 0, .int .i64 0, .bool false, .int .u8 0]) := by kernel_rfl
theorem tk9 : tk Tryz.prog 9 = .str := by kernel_rfl
theorem tI9 : tI Tryz.prog 9 = some (1, false) := by kernel_rfl
theorem un9 : (∃ d, Tryz.prog.underlying 9 = some d) = True := eq_true ⟨_, tk_str tk9⟩
theorem zI9 : zI Tryz.prog 9 = some (.str []) := by kernel_rfl
theorem tk10 : tk Tryz.prog 10 = .str := by kernel_rfl
theorem tI10 : tI Tryz.prog 10 = some (1, false) := by kernel_rfl
theorem un10 : (∃ d, Tryz.prog.underlying 10 = some d) = True := eq_true ⟨_, tk_str tk10⟩
theorem zI10 : zI Tryz.prog 10 = some (.str []) := by kernel_rfl
theorem tk11 : tk Tryz.prog 11 = .str := by kernel_rfl
theorem tI11 : tI Tryz.prog 11 = some (1, false) := by kernel_rfl
theorem un11 : (∃ d, Tryz.prog.underlying 11 = some d) = True := eq_true ⟨_, tk_str tk11⟩
theorem zI11 : zI Tryz.prog 11 = some (.str []) := by kernel_rfl
theorem tk12 : tk Tryz.prog 12 = .int .u64 := by kernel_rfl
theorem tI12 : tI Tryz.prog 12 = some (1, false) := by kernel_rfl
theorem un12 : (∃ d, Tryz.prog.underlying 12 = some d) = True := eq_true ⟨_, tk_int tk12⟩
theorem zI12 : zI Tryz.prog 12 = some (.int .u64 0) := by kernel_rfl
theorem tk13 : tk Tryz.prog 13 = .agg := by kernel_rfl
theorem tI13 : tI Tryz.prog 13 = some (2, true) := by kernel_rfl
theorem zI13 : zI Tryz.prog 13 = some (.agg [.str [], .int .u64 0]) := by kernel_rfl
theorem fI13_0 : fI Tryz.prog 13 0 = some (0, 1, false) := by kernel_rfl
theorem fI13_1 : fI Tryz.prog 13 1 = some (1, 1, false) := by kernel_rfl
theorem bI13 : bI Tryz.prog 13 = some ([(0, 1), (1, 1)], [.str [], .int .u64 0]) := by kernel_rfl
theorem tk14 : tk Tryz.prog 14 = .agg := by kernel_rfl
theorem tI14 : tI Tryz.prog 14 = some (2, true) := by kernel_rfl
theorem zI14 : zI Tryz.prog 14 = some (.agg [.str [], .int .u64 0]) := by kernel_rfl
theorem fI14_0 : fI Tryz.prog 14 0 = some (0, 1, false) := by kernel_rfl
theorem fI14_1 : fI Tryz.prog 14 1 = some (1, 1, false) := by kernel_rfl
theorem bI14 : bI Tryz.prog 14 = some ([(0, 1), (1, 1)], [.str [], .int .u64 0]) := by kernel_rfl
theorem tk15 : tk Tryz.prog 15 = .ptr := by kernel_rfl
theorem tI15 : tI Tryz.prog 15 = some (1, false) := by kernel_rfl
theorem zI15 : zI Tryz.prog 15 = some (.nilp) := by kernel_rfl
theorem tk16 : tk Tryz.prog 16 = .ptr := by kernel_rfl
theorem tI16 : tI Tryz.prog 16 = some (1, false) := by kernel_rfl
theorem zI16 : zI Tryz.prog 16 = some (.nilp) := by kernel_rfl
theorem tk17 : tk Tryz.prog 17 = .ptr := by kernel_rfl
theorem tI17 : tI Tryz.prog 17 = some (1, false) := by kernel_rfl
theorem zI17 : zI Tryz.prog 17 = some (.nilp) := by kernel_rfl
theorem tk18 : tk Tryz.prog 18 = .agg := by kernel_rfl
theorem tI18 : tI Tryz.prog 18 = some (1, true) := by kernel_rfl
theorem zI18 : zI Tryz.prog 18 = some (.agg [.nilp]) := by kernel_rfl
theorem fI18_0 : fI Tryz.prog 18 0 = some (0, 1, false) := by kernel_rfl
theorem bI18 : bI Tryz.prog 18 = some ([(0, 1)], [.nilp]) := by kernel_rfl
theorem tk19 : tk Tryz.prog 19 = .agg := by kernel_rfl
theorem tI19 : tI Tryz.prog 19 = some (1, true) := by kernel_rfl
theorem zI19 : zI Tryz.prog 19 = some (.agg [.nilp]) := by kernel_rfl
theorem fI19_0 : fI Tryz.prog 19 0 = some (0, 1, false) := by kernel_rfl
theorem bI19 : bI Tryz.prog 19 = some ([(0, 1)], [.nilp]) := by kernel_rfl
theorem tk20 : tk Tryz.prog 20 = .iface := by kernel_rfl
theorem tI20 : tI Tryz.prog 20 = some (1, false) := by kernel_rfl
theorem zI20 : zI Tryz.prog 20 = some (.nili) := by kernel_rfl
theorem tk21 : tk Tryz.prog 21 = .int .i32 := by kernel_rfl
theorem tI21 : tI Tryz.prog 21 = some (1, false) := by kernel_rfl
theorem un21 : (∃ d, Tryz.prog.underlying 21 = some d) = True := eq_true ⟨_, tk_int tk21⟩
theorem zI21 : zI Tryz.prog 21 = some (.int .i32 0) := by kernel_rfl
theorem tk22 : tk Tryz.prog 22 = .sl 9 := by kernel_rfl
theorem tI22 : tI Tryz.prog 22 = some (1, false) := by kernel_rfl
theorem un22 : (∃ d, Tryz.prog.underlying 22 = some d) = True := eq_true ⟨_, tk_sl tk22⟩
theorem zI22 : zI Tryz.prog 22 = some (.fz true []) := by kernel_rfl
theorem eI22 : eI Tryz.prog 22 = some (9, 1, 16) := by kernel_rfl
theorem tk25 : tk Tryz.prog 25 = .ptr := by kernel_rfl
theorem tI25 : tI Tryz.prog 25 = some (1, false) := by kernel_rfl
theorem zI25 : zI Tryz.prog 25 = some (.nilp) := by kernel_rfl
theorem tk26 : tk Tryz.prog 26 = .int .i64 := by kernel_rfl
theorem tI26 : tI Tryz.prog 26 = some (1, false) := by kernel_rfl
theorem un26 : (∃ d, Tryz.prog.underlying 26 = some d) = True := eq_true ⟨_, tk_int tk26⟩
theorem zI26 : zI Tryz.prog 26 = some (.int .i64 0) := by kernel_rfl
theorem tk34 : tk Tryz.prog 34 = .ptr := by kernel_rfl
theorem tI34 : tI Tryz.prog 34 = some (1, false) := by kernel_rfl
theorem zI34 : zI Tryz.prog 34 = some (.nilp) := by kernel_rfl
theorem tk39 : tk Tryz.prog 39 = .sl 54 := by kernel_rfl
theorem tI39 : tI Tryz.prog 39 = some (1, false) := by kernel_rfl
theorem un39 : (∃ d, Tryz.prog.underlying 39 = some d) = True := eq_true ⟨_, tk_sl tk39⟩
theorem zI39 : zI Tryz.prog 39 = some (.fz true []) := by kernel_rfl
theorem eI39 : eI Tryz.prog 39 = some (54, 2, 16) := by kernel_rfl
theorem tk42 : tk Tryz.prog 42 = .sl 5 := by kernel_rfl
theorem tI42 : tI Tryz.prog 42 = some (1, false) := by kernel_rfl
theorem un42 : (∃ d, Tryz.prog.underlying 42 = some d) = True := eq_true ⟨_, tk_sl tk42⟩
theorem zI42 : zI Tryz.prog 42 = some (.fz true []) := by kernel_rfl
theorem eI42 : eI Tryz.prog 42 = some (5, 1, 1) := by kernel_rfl
theorem tk53 : tk Tryz.prog 53 = .agg := by kernel_rfl
theorem tI53 : tI Tryz.prog 53 = some (2, true) := by kernel_rfl
theorem zI53 : zI Tryz.prog 53 = some (.agg [.int .i64 0, .int .i64 0]) := by kernel_rfl
theorem fI53_0 : fI Tryz.prog 53 0 = some (0, 1, false) := by kernel_rfl
theorem fI53_1 : fI Tryz.prog 53 1 = some (1, 1, false) := by kernel_rfl
theorem bI53 : bI Tryz.prog 53 = some ([(0, 1), (1, 1)], [.int .i64 0, .int .i64 0]) := by kernel_rfl
theorem tk54 : tk Tryz.prog 54 = .agg := by kernel_rfl
theorem tI54 : tI Tryz.prog 54 = some (2, true) := by kernel_rfl
theorem zI54 : zI Tryz.prog 54 = some (.agg [.int .i64 0, .int .i64 0]) := by kernel_rfl
theorem fI54_0 : fI Tryz.prog 54 0 = some (0, 1, false) := by kernel_rfl
theorem fI54_1 : fI Tryz.prog 54 1 = some (1, 1, false) := by kernel_rfl
theorem bI54 : bI Tryz.prog 54 = some ([(0, 1), (1, 1)], [.int .i64 0, .int .i64 0]) := by kernel_rfl
theorem flatI54 : flatI Tryz.prog 54 = true := by kernel_rfl
theorem flatK54 : flatK Tryz.prog 54 = [.int .i64, .int .i64] := by kernel_rfl
theorem tk59 : tk Tryz.prog 59 = .sl 63 := by kernel_rfl
theorem tI59 : tI Tryz.prog 59 = some (1, false) := by kernel_rfl
theorem un59 : (∃ d, Tryz.prog.underlying 59 = some d) = True := eq_true ⟨_, tk_sl tk59⟩
theorem zI59 : zI Tryz.prog 59 = some (.fz true []) := by kernel_rfl
theorem eI59 : eI Tryz.prog 59 = some (63, 1, 8) := by kernel_rfl
theorem tk60 : tk Tryz.prog 60 = .sl 69 := by kernel_rfl
theorem tI60 : tI Tryz.prog 60 = some (1, false) := by kernel_rfl
theorem un60 : (∃ d, Tryz.prog.underlying 60 = some d) = True := eq_true ⟨_, tk_sl tk60⟩
theorem zI60 : zI Tryz.prog 60 = some (.fz true []) := by kernel_rfl
theorem eI60 : eI Tryz.prog 60 = some (69, 1, 8) := by kernel_rfl
theorem tk61 : tk Tryz.prog 61 = .agg := by kernel_rfl
theorem tI61 : tI Tryz.prog 61 = some (3, true) := by kernel_rfl
theorem zI61 : zI Tryz.prog 61 = some (.agg [.nilp, .fz true [], .fz true []]) := by kernel_rfl
theorem fI61_0 : fI Tryz.prog 61 0 = some (0, 1, false) := by kernel_rfl
theorem fI61_1 : fI Tryz.prog 61 1 = some (1, 1, false) := by kernel_rfl
theorem fI61_2 : fI Tryz.prog 61 2 = some (2, 1, false) := by kernel_rfl
theorem bI61 : bI Tryz.prog 61 = some ([(0, 1), (1, 1), (2, 1)], [.nilp, .fz true [], .fz true []]) := by kernel_rfl
theorem tk62 : tk Tryz.prog 62 = .agg := by kernel_rfl
theorem tI62 : tI Tryz.prog 62 = some (3, true) := by kernel_rfl
theorem zI62 : zI Tryz.prog 62 = some (.agg [.nilp, .fz true [], .fz true []]) := by kernel_rfl
theorem fI62_0 : fI Tryz.prog 62 0 = some (0, 1, false) := by kernel_rfl
theorem fI62_1 : fI Tryz.prog 62 1 = some (1, 1, false) := by kernel_rfl
theorem fI62_2 : fI Tryz.prog 62 2 = some (2, 1, false) := by kernel_rfl
theorem bI62 : bI Tryz.prog 62 = some ([(0, 1), (1, 1), (2, 1)], [.nilp, .fz true [], .fz true []]) := by kernel_rfl
theorem tk63 : tk Tryz.prog 63 = .int .u64 := by kernel_rfl
theorem tI63 : tI Tryz.prog 63 = some (1, false) := by kernel_rfl
theorem un63 : (∃ d, Tryz.prog.underlying 63 = some d) = True := eq_true ⟨_, tk_int tk63⟩
theorem zI63 : zI Tryz.prog 63 = some (.int .u64 0) := by kernel_rfl
theorem tk66 : tk Tryz.prog 66 = .agg := by kernel_rfl
theorem tI66 : tI Tryz.prog 66 = some (1, true) := by kernel_rfl
theorem zI66 : zI Tryz.prog 66 = some (.agg [.fz true []]) := by kernel_rfl
theorem fI66_0 : fI Tryz.prog 66 0 = some (0, 1, false) := by kernel_rfl
theorem bI66 : bI Tryz.prog 66 = some ([(0, 1)], [.fz true []]) := by kernel_rfl
theorem tk67 : tk Tryz.prog 67 = .agg := by kernel_rfl
theorem tI67 : tI Tryz.prog 67 = some (1, true) := by kernel_rfl
theorem zI67 : zI Tryz.prog 67 = some (.agg [.fz true []]) := by kernel_rfl
theorem fI67_0 : fI Tryz.prog 67 0 = some (0, 1, false) := by kernel_rfl
theorem bI67 : bI Tryz.prog 67 = some ([(0, 1)], [.fz true []]) := by kernel_rfl
theorem tk69 : tk Tryz.prog 69 = .ptr := by kernel_rfl
theorem tI69 : tI Tryz.prog 69 = some (1, false) := by kernel_rfl
theorem zI69 : zI Tryz.prog 69 = some (.nilp) := by kernel_rfl
theorem tk71 : tk Tryz.prog 71 = .sl 3 := by kernel_rfl
theorem tI71 : tI Tryz.prog 71 = some (1, false) := by kernel_rfl
theorem un71 : (∃ d, Tryz.prog.underlying 71 = some d) = True := eq_true ⟨_, tk_sl tk71⟩
theorem zI71 : zI Tryz.prog 71 = some (.fz true []) := by kernel_rfl
theorem eI71 : eI Tryz.prog 71 = some (3, 1, 8) := by kernel_rfl
theorem tk84 : tk Tryz.prog 84 = .ptr := by kernel_rfl
theorem tI84 : tI Tryz.prog 84 = some (1, false) := by kernel_rfl
theorem zI84 : zI Tryz.prog 84 = some (.nilp) := by kernel_rfl
theorem tk85 : tk Tryz.prog 85 = .ptr := by kernel_rfl
theorem tI85 : tI Tryz.prog 85 = some (1, false) := by kernel_rfl
theorem zI85 : zI Tryz.prog 85 = some (.nilp) := by kernel_rfl
theorem tk87 : tk Tryz.prog 87 = .agg := by kernel_rfl
theorem tI87 : tI Tryz.prog 87 = some (2, true) := by kernel_rfl
theorem zI87 : zI Tryz.prog 87 = some (.agg [.nilp, .bool false]) := by kernel_rfl
theorem fI87_0 : fI Tryz.prog 87 0 = some (0, 1, false) := by kernel_rfl
theorem fI87_1 : fI Tryz.prog 87 1 = some (1, 1, false) := by kernel_rfl
theorem bI87 : bI Tryz.prog 87 = some ([(0, 1), (1, 1)], [.nilp, .bool false]) := by kernel_rfl
theorem tk88 : tk Tryz.prog 88 = .agg := by kernel_rfl
theorem tI88 : tI Tryz.prog 88 = some (2, true) := by kernel_rfl
theorem zI88 : zI Tryz.prog 88 = some (.agg [.nilp, .bool false]) := by kernel_rfl
theorem fI88_0 : fI Tryz.prog 88 0 = some (0, 1, false) := by kernel_rfl
theorem fI88_1 : fI Tryz.prog 88 1 = some (1, 1, false) := by kernel_rfl
theorem bI88 : bI Tryz.prog 88 = some ([(0, 1), (1, 1)], [.nilp, .bool false]) := by kernel_rfl
theorem tk99 : tk Tryz.prog 99 = .ptr := by kernel_rfl
theorem tI99 : tI Tryz.prog 99 = some (1, false) := by kernel_rfl
theorem zI99 : zI Tryz.prog 99 = some (.nilp) := by kernel_rfl
theorem tk100 : tk Tryz.prog 100 = .agg := by kernel_rfl
theorem tI100 : tI Tryz.prog 100 = some (3, true) := by kernel_rfl
theorem zI100 : zI Tryz.prog 100 = some (.agg [.fz true [], .int .i64 0, .bool false]) := by kernel_rfl
theorem fI100_0 : fI Tryz.prog 100 0 = some (0, 1, false) := by kernel_rfl
theorem fI100_1 : fI Tryz.prog 100 1 = some (1, 1, false) := by kernel_rfl
theorem fI100_2 : fI Tryz.prog 100 2 = some (2, 1, false) := by kernel_rfl
theorem bI100 : bI Tryz.prog 100 = some ([(0, 1), (1, 1), (2, 1)], [.fz true [], .int .i64 0, .bool false]) := by kernel_rfl
theorem tk101 : tk Tryz.prog 101 = .agg := by kernel_rfl
theorem tI101 : tI Tryz.prog 101 = some (3, true) := by kernel_rfl
theorem zI101 : zI Tryz.prog 101 = some (.agg [.fz true [], .int .i64 0, .bool false]) := by kernel_rfl
theorem fI101_0 : fI Tryz.prog 101 0 = some (0, 1, false) := by kernel_rfl
theorem fI101_1 : fI Tryz.prog 101 1 = some (1, 1, false) := by kernel_rfl
theorem fI101_2 : fI Tryz.prog 101 2 = some (2, 1, false) := by kernel_rfl
theorem bI101 : bI Tryz.prog 101 = some ([(0, 1), (1, 1), (2, 1)], [.fz true [], .int .i64 0, .bool false]) := by kernel_rfl
theorem tk108 : tk Tryz.prog 108 = .map 63 71 := by kernel_rfl
theorem tI108 : tI Tryz.prog 108 = some (1, false) := by kernel_rfl
theorem zI108 : zI Tryz.prog 108 = some (.nilm) := by kernel_rfl
theorem tk112 : tk Tryz.prog 112 = .agg := by kernel_rfl
theorem tI112 : tI Tryz.prog 112 = some (4, true) := by kernel_rfl
theorem zI112 : zI Tryz.prog 112 = some (.agg [.int .u64 0, .int .u64 0, .int .u64 0, .int .u64 0]) := by kernel_rfl
theorem aI112 : aI Tryz.prog 112 = some (4, 1, false) := by kernel_rfl
theorem tk113 : tk Tryz.prog 113 = .agg := by kernel_rfl
theorem tI113 : tI Tryz.prog 113 = some (4, true) := by kernel_rfl
theorem zI113 : zI Tryz.prog 113 = some (.agg [.int .u64 0, .int .u64 0, .int .u64 0, .int .u64 0]) := by kernel_rfl
theorem aI113 : aI Tryz.prog 113 = some (4, 1, false) := by kernel_rfl
theorem tk122 : tk Tryz.prog 122 = .ptr := by kernel_rfl
theorem tI122 : tI Tryz.prog 122 = some (1, false) := by kernel_rfl
theorem zI122 : zI Tryz.prog 122 = some (.nilp) := by kernel_rfl
theorem tk124 : tk Tryz.prog 124 = .int .u64 := by kernel_rfl
theorem tI124 : tI Tryz.prog 124 = some (1, false) := by kernel_rfl
theorem un124 : (∃ d, Tryz.prog.underlying 124 = some d) = True := eq_true ⟨_, tk_int tk124⟩
theorem zI124 : zI Tryz.prog 124 = some (.int .u64 0) := by kernel_rfl
theorem tk126 : tk Tryz.prog 126 = .sl 42 := by kernel_rfl
theorem tI126 : tI Tryz.prog 126 = some (1, false) := by kernel_rfl
theorem un126 : (∃ d, Tryz.prog.underlying 126 = some d) = True := eq_true ⟨_, tk_sl tk126⟩
theorem zI126 : zI Tryz.prog 126 = some (.fz true []) := by kernel_rfl
theorem eI126 : eI Tryz.prog 126 = some (42, 1, 24) := by kernel_rfl
theorem tk131 : tk Tryz.prog 131 = .agg := by kernel_rfl
theorem tI131 : tI Tryz.prog 131 = some (1, true) := by kernel_rfl
theorem zI131 : zI Tryz.prog 131 = some (.agg [.fz true []]) := by kernel_rfl
theorem fI131_0 : fI Tryz.prog 131 0 = some (0, 1, false) := by kernel_rfl
theorem bI131 : bI Tryz.prog 131 = some ([(0, 1)], [.fz true []]) := by kernel_rfl
theorem tk132 : tk Tryz.prog 132 = .agg := by kernel_rfl
theorem tI132 : tI Tryz.prog 132 = some (1, true) := by kernel_rfl
theorem zI132 : zI Tryz.prog 132 = some (.agg [.fz true []]) := by kernel_rfl
theorem fI132_0 : fI Tryz.prog 132 0 = some (0, 1, false) := by kernel_rfl
theorem bI132 : bI Tryz.prog 132 = some ([(0, 1)], [.fz true []]) := by kernel_rfl
theorem tk147 : tk Tryz.prog 147 = .agg := by kernel_rfl
theorem tI147 : tI Tryz.prog 147 = some (256, true) := by kernel_rfl
theorem aI147 : aI Tryz.prog 147 = some (256, 1, false) := by kernel_rfl
theorem tk148 : tk Tryz.prog 148 = .agg := by kernel_rfl
theorem tI148 : tI Tryz.prog 148 = some (256, true) := by kernel_rfl
theorem fI148_0 : fI Tryz.prog 148 0 = some (0, 256, true) := by kernel_rfl
theorem tk149 : tk Tryz.prog 149 = .agg := by kernel_rfl
theorem tI149 : tI Tryz.prog 149 = some (256, true) := by kernel_rfl
theorem fI149_0 : fI Tryz.prog 149 0 = some (0, 256, true) := by kernel_rfl
theorem tk152 : tk Tryz.prog 152 = .iface := by kernel_rfl
theorem tI152 : tI Tryz.prog 152 = some (1, false) := by kernel_rfl
theorem zI152 : zI Tryz.prog 152 = some (.nili) := by kernel_rfl
theorem tk153 : tk Tryz.prog 153 = .iface := by kernel_rfl
theorem tI153 : tI Tryz.prog 153 = some (1, false) := by kernel_rfl
theorem zI153 : zI Tryz.prog 153 = some (.nili) := by kernel_rfl
theorem tk154 : tk Tryz.prog 154 = .agg := by kernel_rfl
theorem tI154 : tI Tryz.prog 154 = some (3, true) := by kernel_rfl
theorem zI154 : zI Tryz.prog 154 = some (.agg [.nili, .nili, .nili]) := by kernel_rfl
theorem aI154 : aI Tryz.prog 154 = some (3, 1, false) := by kernel_rfl
theorem tk160 : tk Tryz.prog 160 = .int .i64 := by kernel_rfl
theorem tI160 : tI Tryz.prog 160 = some (1, false) := by kernel_rfl
theorem un160 : (∃ d, Tryz.prog.underlying 160 = some d) = True := eq_true ⟨_, tk_int tk160⟩
theorem zI160 : zI Tryz.prog 160 = some (.int .i64 0) := by kernel_rfl
theorem tk168 : tk Tryz.prog 168 = .int .u32 := by kernel_rfl
theorem tI168 : tI Tryz.prog 168 = some (1, false) := by kernel_rfl
theorem un168 : (∃ d, Tryz.prog.underlying 168 = some d) = True := eq_true ⟨_, tk_int tk168⟩
theorem zI168 : zI Tryz.prog 168 = some (.int .u32 0) := by kernel_rfl
theorem tk171 : tk Tryz.prog 171 = .agg := by kernel_rfl
theorem tI171 : tI Tryz.prog 171 = some (0, true) := by kernel_rfl
theorem zI171 : zI Tryz.prog 171 = some (.agg []) := by kernel_rfl
theorem bI171 : bI Tryz.prog 171 = some ([], []) := by kernel_rfl
theorem tk172 : tk Tryz.prog 172 = .agg := by kernel_rfl
theorem tI172 : tI Tryz.prog 172 = some (0, true) := by kernel_rfl
theorem zI172 : zI Tryz.prog 172 = some (.agg []) := by kernel_rfl
theorem bI172 : bI Tryz.prog 172 = some ([], []) := by kernel_rfl
theorem tk173 : tk Tryz.prog 173 = .agg := by kernel_rfl
theorem tI173 : tI Tryz.prog 173 = some (0, true) := by kernel_rfl
theorem zI173 : zI Tryz.prog 173 = some (.agg []) := by kernel_rfl
theorem bI173 : bI Tryz.prog 173 = some ([], []) := by kernel_rfl
theorem tk174 : tk Tryz.prog 174 = .agg := by kernel_rfl
theorem tI174 : tI Tryz.prog 174 = some (0, true) := by kernel_rfl
theorem zI174 : zI Tryz.prog 174 = some (.agg []) := by kernel_rfl
theorem bI174 : bI Tryz.prog 174 = some ([], []) := by kernel_rfl
theorem tk175 : tk Tryz.prog 175 = .int .u64 := by kernel_rfl
theorem tI175 : tI Tryz.prog 175 = some (1, false) := by kernel_rfl
theorem un175 : (∃ d, Tryz.prog.underlying 175 = some d) = True := eq_true ⟨_, tk_int tk175⟩
theorem zI175 : zI Tryz.prog 175 = some (.int .u64 0) := by kernel_rfl
theorem tk179 : tk Tryz.prog 179 = .ptr := by kernel_rfl
theorem tI179 : tI Tryz.prog 179 = some (1, false) := by kernel_rfl
theorem zI179 : zI Tryz.prog 179 = some (.nilp) := by kernel_rfl
theorem tk187 : tk Tryz.prog 187 = .ptr := by kernel_rfl
theorem tI187 : tI Tryz.prog 187 = some (1, false) := by kernel_rfl
theorem zI187 : zI Tryz.prog 187 = some (.nilp) := by kernel_rfl
theorem tk193 : tk Tryz.prog 193 = .agg := by kernel_rfl
theorem tI193 : tI Tryz.prog 193 = some (4, true) := by kernel_rfl
theorem zI193 : zI Tryz.prog 193 = some (.agg [.nilp, .nilp, .nilp, .str []]) := by kernel_rfl
theorem fI193_0 : fI Tryz.prog 193 0 = some (0, 1, false) := by kernel_rfl
theorem fI193_1 : fI Tryz.prog 193 1 = some (1, 1, false) := by kernel_rfl
theorem fI193_2 : fI Tryz.prog 193 2 = some (2, 1, false) := by kernel_rfl
theorem fI193_3 : fI Tryz.prog 193 3 = some (3, 1, false) := by kernel_rfl
theorem bI193 : bI Tryz.prog 193 = some ([(0, 1), (1, 1), (2, 1), (3, 1)], [.nilp, .nilp, .nilp, .str []]) := by kernel_rfl
theorem tk194 : tk Tryz.prog 194 = .agg := by kernel_rfl
theorem tI194 : tI Tryz.prog 194 = some (4, true) := by kernel_rfl
theorem zI194 : zI Tryz.prog 194 = some (.agg [.nilp, .nilp, .nilp, .str []]) := by kernel_rfl
theorem fI194_0 : fI Tryz.prog 194 0 = some (0, 1, false) := by kernel_rfl
theorem fI194_1 : fI Tryz.prog 194 1 = some (1, 1, false) := by kernel_rfl
theorem fI194_2 : fI Tryz.prog 194 2 = some (2, 1, false) := by kernel_rfl
theorem fI194_3 : fI Tryz.prog 194 3 = some (3, 1, false) := by kernel_rfl
theorem bI194 : bI Tryz.prog 194 = some ([(0, 1), (1, 1), (2, 1), (3, 1)], [.nilp, .nilp, .nilp, .str []]) := by kernel_rfl
theorem tk195 : tk Tryz.prog 195 = .agg := by kernel_rfl
theorem tI195 : tI Tryz.prog 195 = some (0, true) := by kernel_rfl
theorem zI195 : zI Tryz.prog 195 = some (.agg []) := by kernel_rfl
theorem aI195 : aI Tryz.prog 195 = some (0, 1, false) := by kernel_rfl
theorem tk196 : tk Tryz.prog 196 = .agg := by kernel_rfl
theorem tI196 : tI Tryz.prog 196 = some (0, true) := by kernel_rfl
theorem zI196 : zI Tryz.prog 196 = some (.agg []) := by kernel_rfl
theorem bI196 : bI Tryz.prog 196 = some ([(0, 0)], []) := by kernel_rfl
theorem tk197 : tk Tryz.prog 197 = .agg := by kernel_rfl
theorem tI197 : tI Tryz.prog 197 = some (0, true) := by kernel_rfl
theorem zI197 : zI Tryz.prog 197 = some (.agg []) := by kernel_rfl
theorem bI197 : bI Tryz.prog 197 = some ([(0, 0)], []) := by kernel_rfl
theorem tk198 : tk Tryz.prog 198 = .int .u8 := by kernel_rfl
theorem tI198 : tI Tryz.prog 198 = some (1, false) := by kernel_rfl
theorem un198 : (∃ d, Tryz.prog.underlying 198 = some d) = True := eq_true ⟨_, tk_int tk198⟩
theorem zI198 : zI Tryz.prog 198 = some (.int .u8 0) := by kernel_rfl
theorem tk199 : tk Tryz.prog 199 = .int .u8 := by kernel_rfl
theorem tI199 : tI Tryz.prog 199 = some (1, false) := by kernel_rfl
theorem un199 : (∃ d, Tryz.prog.underlying 199 = some d) = True := eq_true ⟨_, tk_int tk199⟩
theorem zI199 : zI Tryz.prog 199 = some (.int .u8 0) := by kernel_rfl
theorem tk201 : tk Tryz.prog 201 = .ptr := by kernel_rfl
theorem tI201 : tI Tryz.prog 201 = some (1, false) := by kernel_rfl
theorem zI201 : zI Tryz.prog 201 = some (.nilp) := by kernel_rfl
theorem tk202 : tk Tryz.prog 202 = .int .i32 := by kernel_rfl
theorem tI202 : tI Tryz.prog 202 = some (1, false) := by kernel_rfl
theorem un202 : (∃ d, Tryz.prog.underlying 202 = some d) = True := eq_true ⟨_, tk_int tk202⟩
theorem zI202 : zI Tryz.prog 202 = some (.int .i32 0) := by kernel_rfl
theorem tk203 : tk Tryz.prog 203 = .int .i32 := by kernel_rfl
theorem tI203 : tI Tryz.prog 203 = some (1, false) := by kernel_rfl
theorem un203 : (∃ d, Tryz.prog.underlying 203 = some d) = True := eq_true ⟨_, tk_int tk203⟩
theorem zI203 : zI Tryz.prog 203 = some (.int .i32 0) := by kernel_rfl
theorem tk204 : tk Tryz.prog 204 = .agg := by kernel_rfl
theorem tI204 : tI Tryz.prog 204 = some (11, true) := by kernel_rfl
theorem zI204 : zI Tryz.prog 204 = some (.agg [.int .u64 0, .int .u64 0, .int .u32 0, .int .u8 0, .int .u8 0, .int .u8 0, .int .u8 0, .nilf, .nilp, .int .i32 0, .int .i32 0]) := by kernel_rfl
theorem fI204_0 : fI Tryz.prog 204 0 = some (0, 1, false) := by kernel_rfl
theorem fI204_1 : fI Tryz.prog 204 1 = some (1, 1, false) := by kernel_rfl
theorem fI204_2 : fI Tryz.prog 204 2 = some (2, 1, false) := by kernel_rfl
theorem fI204_3 : fI Tryz.prog 204 3 = some (3, 1, false) := by kernel_rfl
theorem fI204_4 : fI Tryz.prog 204 4 = some (4, 1, false) := by kernel_rfl
theorem fI204_5 : fI Tryz.prog 204 5 = some (5, 1, false) := by kernel_rfl
theorem fI204_6 : fI Tryz.prog 204 6 = some (6, 1, false) := by kernel_rfl
theorem fI204_7 : fI Tryz.prog 204 7 = some (7, 1, false) := by kernel_rfl
theorem fI204_8 : fI Tryz.prog 204 8 = some (8, 1, false) := by kernel_rfl
theorem fI204_9 : fI Tryz.prog 204 9 = some (9, 1, false) := by kernel_rfl
theorem fI204_10 : fI Tryz.prog 204 10 = some (10, 1, false) := by kernel_rfl
theorem bI204 : bI Tryz.prog 204 = some ([(0, 1), (1, 1), (2, 1), (3, 1), (4, 1), (5, 1), (6, 1), (7, 1), (8, 1), (9, 1), (10, 1)], [.int .u64 0, .int .u64 0, .int .u32 0, .int .u8 0, .int .u8 0, .int .u8 0, .int .u8 0, .nilf, .nilp, .int .i32 0, .int .i32 0]) := by kernel_rfl
theorem tk205 : tk Tryz.prog 205 = .agg := by kernel_rfl
theorem tI205 : tI Tryz.prog 205 = some (11, true) := by kernel_rfl
theorem zI205 : zI Tryz.prog 205 = some (.agg [.int .u64 0, .int .u64 0, .int .u32 0, .int .u8 0, .int .u8 0, .int .u8 0, .int .u8 0, .nilf, .nilp, .int .i32 0, .int .i32 0]) := by kernel_rfl
theorem fI205_0 : fI Tryz.prog 205 0 = some (0, 1, false) := by kernel_rfl
theorem fI205_1 : fI Tryz.prog 205 1 = some (1, 1, false) := by kernel_rfl
theorem fI205_2 : fI Tryz.prog 205 2 = some (2, 1, false) := by kernel_rfl
theorem fI205_3 : fI Tryz.prog 205 3 = some (3, 1, false) := by kernel_rfl
theorem fI205_4 : fI Tryz.prog 205 4 = some (4, 1, false) := by kernel_rfl
theorem fI205_5 : fI Tryz.prog 205 5 = some (5, 1, false) := by kernel_rfl
theorem fI205_6 : fI Tryz.prog 205 6 = some (6, 1, false) := by kernel_rfl
theorem fI205_7 : fI Tryz.prog 205 7 = some (7, 1, false) := by kernel_rfl
theorem fI205_8 : fI Tryz.prog 205 8 = some (8, 1, false) := by kernel_rfl
theorem fI205_9 : fI Tryz.prog 205 9 = some (9, 1, false) := by kernel_rfl
theorem fI205_10 : fI Tryz.prog 205 10 = some (10, 1, false) := by kernel_rfl
theorem bI205 : bI Tryz.prog 205 = some ([(0, 1), (1, 1), (2, 1), (3, 1), (4, 1), (5, 1), (6, 1), (7, 1), (8, 1), (9, 1), (10, 1)], [.int .u64 0, .int .u64 0, .int .u32 0, .int .u8 0, .int .u8 0, .int .u8 0, .int .u8 0, .nilf, .nilp, .int .i32 0, .int .i32 0]) := by kernel_rfl
theorem en3 : entersB Tryz.prog 3 = true := by kernel_rfl
theorem en4 : entersB Tryz.prog 4 = true := by kernel_rfl
theorem en5 : entersB Tryz.prog 5 = true := by kernel_rfl
theorem en6 : entersB Tryz.prog 6 = true := by kernel_rfl
theorem en7 : entersB Tryz.prog 7 = true := by kernel_rfl
theorem en8 : entersB Tryz.prog 8 = true := by kernel_rfl
theorem en9 : entersB Tryz.prog 9 = true := by kernel_rfl
theorem en10 : entersB Tryz.prog 10 = true := by kernel_rfl
theorem en11 : entersB Tryz.prog 11 = true := by kernel_rfl
theorem en12 : entersB Tryz.prog 12 = true := by kernel_rfl
theorem en13 : entersB Tryz.prog 13 = true := by kernel_rfl
theorem en14 : entersB Tryz.prog 14 = true := by kernel_rfl
theorem en15 : entersB Tryz.prog 15 = true := by kernel_rfl
theorem en16 : entersB Tryz.prog 16 = true := by kernel_rfl
theorem en17 : entersB Tryz.prog 17 = true := by kernel_rfl
theorem en18 : entersB Tryz.prog 18 = true := by kernel_rfl
theorem en19 : entersB Tryz.prog 19 = true := by kernel_rfl
theorem en20 : entersB Tryz.prog 20 = true := by kernel_rfl
theorem en21 : entersB Tryz.prog 21 = true := by kernel_rfl
theorem en22 : entersB Tryz.prog 22 = true := by kernel_rfl
theorem en23 : entersB Tryz.prog 23 = true := by kernel_rfl
theorem en24 : entersB Tryz.prog 24 = true := by kernel_rfl
theorem en25 : entersB Tryz.prog 25 = true := by kernel_rfl
theorem en26 : entersB Tryz.prog 26 = true := by kernel_rfl
theorem en27 : entersB Tryz.prog 27 = true := by kernel_rfl
theorem en28 : entersB Tryz.prog 28 = true := by kernel_rfl
theorem en29 : entersB Tryz.prog 29 = true := by kernel_rfl
theorem en30 : entersB Tryz.prog 30 = true := by kernel_rfl
theorem en31 : entersB Tryz.prog 31 = true := by kernel_rfl
theorem en32 : entersB Tryz.prog 32 = true := by kernel_rfl
theorem en33 : entersB Tryz.prog 33 = true := by kernel_rfl
theorem en34 : entersB Tryz.prog 34 = true := by kernel_rfl
theorem en35 : entersB Tryz.prog 35 = true := by kernel_rfl
theorem en36 : entersB Tryz.prog 36 = true := by kernel_rfl
theorem en37 : entersB Tryz.prog 37 = true := by kernel_rfl
theorem en38 : entersB Tryz.prog 38 = true := by kernel_rfl
theorem en39 : entersB Tryz.prog 39 = true := by kernel_rfl
theorem en40 : entersB Tryz.prog 40 = true := by kernel_rfl
theorem en41 : entersB Tryz.prog 41 = true := by kernel_rfl
theorem en42 : entersB Tryz.prog 42 = true := by kernel_rfl
theorem en43 : entersB Tryz.prog 43 = true := by kernel_rfl
theorem en44 : entersB Tryz.prog 44 = true := by kernel_rfl
theorem en45 : entersB Tryz.prog 45 = true := by kernel_rfl
theorem en46 : entersB Tryz.prog 46 = true := by kernel_rfl
theorem en47 : entersB Tryz.prog 47 = true := by kernel_rfl
theorem en48 : entersB Tryz.prog 48 = true := by kernel_rfl
theorem en49 : entersB Tryz.prog 49 = true := by kernel_rfl
theorem en50 : entersB Tryz.prog 50 = true := by kernel_rfl
theorem en51 : entersB Tryz.prog 51 = true := by kernel_rfl
theorem en52 : entersB Tryz.prog 52 = true := by kernel_rfl
theorem en53 : entersB Tryz.prog 53 = true := by kernel_rfl
theorem en54 : entersB Tryz.prog 54 = true := by kernel_rfl
theorem en55 : entersB Tryz.prog 55 = true := by kernel_rfl
theorem en56 : entersB Tryz.prog 56 = true := by kernel_rfl
theorem en57 : entersB Tryz.prog 57 = true := by kernel_rfl
theorem en58 : entersB Tryz.prog 58 = true := by kernel_rfl
theorem en59 : entersB Tryz.prog 59 = true := by kernel_rfl
theorem en60 : entersB Tryz.prog 60 = true := by kernel_rfl
theorem en61 : entersB Tryz.prog 61 = true := by kernel_rfl
theorem en62 : entersB Tryz.prog 62 = true := by kernel_rfl
theorem en63 : entersB Tryz.prog 63 = true := by kernel_rfl
theorem en64 : entersB Tryz.prog 64 = true := by kernel_rfl
theorem en65 : entersB Tryz.prog 65 = true := by kernel_rfl
theorem en66 : entersB Tryz.prog 66 = true := by kernel_rfl
theorem en67 : entersB Tryz.prog 67 = true := by kernel_rfl
theorem en68 : entersB Tryz.prog 68 = true := by kernel_rfl
theorem en69 : entersB Tryz.prog 69 = true := by kernel_rfl
theorem en70 : entersB Tryz.prog 70 = true := by kernel_rfl
theorem en71 : entersB Tryz.prog 71 = true := by kernel_rfl
theorem en72 : entersB Tryz.prog 72 = true := by kernel_rfl
theorem en73 : entersB Tryz.prog 73 = true := by kernel_rfl
theorem en74 : entersB Tryz.prog 74 = true := by kernel_rfl
theorem en75 : entersB Tryz.prog 75 = true := by kernel_rfl
theorem en76 : entersB Tryz.prog 76 = true := by kernel_rfl
theorem en77 : entersB Tryz.prog 77 = true := by kernel_rfl
theorem en78 : entersB Tryz.prog 78 = true := by kernel_rfl
theorem en79 : entersB Tryz.prog 79 = true := by kernel_rfl
theorem en80 : entersB Tryz.prog 80 = true := by kernel_rfl
theorem en81 : entersB Tryz.prog 81 = true := by kernel_rfl
theorem en82 : entersB Tryz.prog 82 = true := by kernel_rfl
theorem en83 : entersB Tryz.prog 83 = true := by kernel_rfl
theorem en84 : entersB Tryz.prog 84 = true := by kernel_rfl
theorem en85 : entersB Tryz.prog 85 = true := by kernel_rfl
theorem en86 : entersB Tryz.prog 86 = true := by kernel_rfl
theorem en87 : entersB Tryz.prog 87 = true := by kernel_rfl
theorem en88 : entersB Tryz.prog 88 = true := by kernel_rfl
theorem en89 : entersB Tryz.prog 89 = true := by kernel_rfl
theorem en90 : entersB Tryz.prog 90 = true := by kernel_rfl
theorem en91 : entersB Tryz.prog 91 = true := by kernel_rfl
theorem en92 : entersB Tryz.prog 92 = true := by kernel_rfl
theorem en93 : entersB Tryz.prog 93 = true := by kernel_rfl
theorem en94 : entersB Tryz.prog 94 = true := by kernel_rfl
theorem en95 : entersB Tryz.prog 95 = true := by kernel_rfl
theorem en96 : entersB Tryz.prog 96 = true := by kernel_rfl
theorem en97 : entersB Tryz.prog 97 = true := by kernel_rfl
theorem en98 : entersB Tryz.prog 98 = true := by kernel_rfl
theorem en99 : entersB Tryz.prog 99 = true := by kernel_rfl
theorem en100 : entersB Tryz.prog 100 = true := by kernel_rfl
theorem en101 : entersB Tryz.prog 101 = true := by kernel_rfl
theorem en102 : entersB Tryz.prog 102 = true := by kernel_rfl
theorem en103 : entersB Tryz.prog 103 = true := by kernel_rfl
theorem en104 : entersB Tryz.prog 104 = true := by kernel_rfl
theorem en105 : entersB Tryz.prog 105 = true := by kernel_rfl
theorem en106 : entersB Tryz.prog 106 = true := by kernel_rfl
theorem en107 : entersB Tryz.prog 107 = true := by kernel_rfl
theorem en108 : entersB Tryz.prog 108 = true := by kernel_rfl
theorem en109 : entersB Tryz.prog 109 = true := by kernel_rfl
theorem en110 : entersB Tryz.prog 110 = true := by kernel_rfl
theorem en111 : entersB Tryz.prog 111 = true := by kernel_rfl
theorem en112 : entersB Tryz.prog 112 = true := by kernel_rfl
theorem en113 : entersB Tryz.prog 113 = true := by kernel_rfl
theorem en114 : entersB Tryz.prog 114 = true := by kernel_rfl
theorem en115 : entersB Tryz.prog 115 = true := by kernel_rfl
theorem en116 : entersB Tryz.prog 116 = true := by kernel_rfl
theorem en117 : entersB Tryz.prog 117 = true := by kernel_rfl
theorem en118 : entersB Tryz.prog 118 = true := by kernel_rfl
theorem en119 : entersB Tryz.prog 119 = true := by kernel_rfl
theorem en120 : entersB Tryz.prog 120 = true := by kernel_rfl
theorem en121 : entersB Tryz.prog 121 = true := by kernel_rfl
theorem en122 : entersB Tryz.prog 122 = true := by kernel_rfl
theorem en123 : entersB Tryz.prog 123 = true := by kernel_rfl
theorem en124 : entersB Tryz.prog 124 = true := by kernel_rfl
theorem en125 : entersB Tryz.prog 125 = true := by kernel_rfl
theorem en126 : entersB Tryz.prog 126 = true := by kernel_rfl
theorem en127 : entersB Tryz.prog 127 = true := by kernel_rfl
theorem en128 : entersB Tryz.prog 128 = true := by kernel_rfl
theorem en129 : entersB Tryz.prog 129 = true := by kernel_rfl
theorem en130 : entersB Tryz.prog 130 = true := by kernel_rfl
theorem en131 : entersB Tryz.prog 131 = true := by kernel_rfl
theorem en132 : entersB Tryz.prog 132 = true := by kernel_rfl
theorem en133 : entersB Tryz.prog 133 = true := by kernel_rfl
theorem en134 : entersB Tryz.prog 134 = true := by kernel_rfl
theorem en135 : entersB Tryz.prog 135 = true := by kernel_rfl
theorem en136 : entersB Tryz.prog 136 = true := by kernel_rfl
theorem en137 : entersB Tryz.prog 137 = true := by kernel_rfl
theorem en138 : entersB Tryz.prog 138 = true := by kernel_rfl
theorem en139 : entersB Tryz.prog 139 = true := by kernel_rfl
theorem en140 : entersB Tryz.prog 140 = true := by kernel_rfl
theorem en141 : entersB Tryz.prog 141 = true := by kernel_rfl
theorem en142 : entersB Tryz.prog 142 = true := by kernel_rfl
theorem en143 : entersB Tryz.prog 143 = true := by kernel_rfl
theorem en144 : entersB Tryz.prog 144 = true := by kernel_rfl
theorem en145 : entersB Tryz.prog 145 = true := by kernel_rfl
theorem en146 : entersB Tryz.prog 146 = true := by kernel_rfl
theorem en147 : entersB Tryz.prog 147 = true := by kernel_rfl
theorem en148 : entersB Tryz.prog 148 = true := by kernel_rfl
theorem en149 : entersB Tryz.prog 149 = true := by kernel_rfl
theorem en150 : entersB Tryz.prog 150 = true := by kernel_rfl
theorem en151 : entersB Tryz.prog 151 = true := by kernel_rfl
theorem en152 : entersB Tryz.prog 152 = true := by kernel_rfl
theorem en153 : entersB Tryz.prog 153 = true := by kernel_rfl
theorem en154 : entersB Tryz.prog 154 = true := by kernel_rfl
theorem en155 : entersB Tryz.prog 155 = true := by kernel_rfl
theorem en156 : entersB Tryz.prog 156 = true := by kernel_rfl
theorem en157 : entersB Tryz.prog 157 = true := by kernel_rfl
theorem en175 : entersB Tryz.prog 175 = true := by kernel_rfl
theorem en177 : entersB Tryz.prog 177 = true := by kernel_rfl
theorem en179 : entersB Tryz.prog 179 = true := by kernel_rfl
attribute [go_sem] tk2 tI2 un2 zI2 tk3 tI3 un3 zI3 tk4 tI4 zI4 tk5 tI5 un5 zI5 tk6 tI6 un6 zI6 tk7 tI7 zI7 fI7_0 fI7_1 fI7_2 fI7_3 bI7 tk8 tI8 zI8 fI8_0 fI8_1 fI8_2 fI8_3 bI8 tk9 tI9 un9 zI9 tk10 tI10 un10 zI10 tk11 tI11 un11 zI11 tk12 tI12 un12 zI12 tk13 tI13 zI13 fI13_0 fI13_1 bI13 tk14 tI14 zI14 fI14_0 fI14_1 bI14 tk15 tI15 zI15 tk16 tI16 zI16 tk17 tI17 zI17 tk18 tI18 zI18 fI18_0 bI18 tk19 tI19 zI19 fI19_0 bI19 tk20 tI20 zI20 tk21 tI21 un21 zI21 tk22 tI22 un22 zI22 eI22 tk25 tI25 zI25 tk26 tI26 un26 zI26 tk34 tI34 zI34 tk39 tI39 un39 zI39 eI39 tk42 tI42 un42 zI42 eI42 tk53 tI53 zI53 fI53_0 fI53_1 bI53 tk54 tI54 zI54 fI54_0 fI54_1 bI54 flatI54 flatK54 tk59 tI59 un59 zI59 eI59 tk60 tI60 un60 zI60 eI60 tk61 tI61 zI61 fI61_0 fI61_1 fI61_2 bI61 tk62 tI62 zI62 fI62_0 fI62_1 fI62_2 bI62 tk63 tI63 un63 zI63 tk66 tI66 zI66 fI66_0 bI66 tk67 tI67 zI67 fI67_0 bI67 tk69 tI69 zI69 tk71 tI71 un71 zI71 eI71 tk84 tI84 zI84 tk85 tI85 zI85 tk87 tI87 zI87 fI87_0 fI87_1 bI87 tk88 tI88 zI88 fI88_0 fI88_1 bI88 tk99 tI99 zI99 tk100 tI100 zI100 fI100_0 fI100_1 fI100_2 bI100 tk101 tI101 zI101 fI101_0 fI101_1 fI101_2 bI101 tk108 tI108 zI108 tk112 tI112 zI112 aI112 tk113 tI113 zI113 aI113 tk122 tI122 zI122 tk124 tI124 un124 zI124 tk126 tI126 un126 zI126 eI126 tk131 tI131 zI131 fI131_0 bI131 tk132 tI132 zI132 fI132_0 bI132 tk147 tI147 aI147 tk148 tI148 fI148_0 tk149 tI149 fI149_0 tk152 tI152 zI152 tk153 tI153 zI153 tk154 tI154 zI154 aI154 tk160 tI160 un160 zI160 tk168 tI168 un168 zI168 tk171 tI171 zI171 bI171 tk172 tI172 zI172 bI172 tk173 tI173 zI173 bI173 tk174 tI174 zI174 bI174 tk175 tI175 un175 zI175 tk179 tI179 zI179 tk187 tI187 zI187 tk193 tI193 zI193 fI193_0 fI193_1 fI193_2 fI193_3 bI193 tk194 tI194 zI194 fI194_0 fI194_1 fI194_2 fI194_3 bI194 tk195 tI195 zI195 aI195 tk196 tI196 zI196 bI196 tk197 tI197 zI197 bI197 tk198 tI198 un198 zI198 tk199 tI199 un199 zI199 tk201 tI201 zI201 tk202 tI202 un202 zI202 tk203 tI203 un203 zI203 tk204 tI204 zI204 fI204_0 fI204_1 fI204_2 fI204_3 fI204_4 fI204_5 fI204_6 fI204_7 fI204_8 fI204_9 fI204_10 bI204 tk205 tI205 zI205 fI205_0 fI205_1 fI205_2 fI205_3 fI205_4 fI205_5 fI205_6 fI205_7 fI205_8 fI205_9 fI205_10 bI205 en3 en4 en5 en6 en7 en8 en9 en10 en11 en12 en13 en14 en15 en16 en17 en18 en19 en20 en21 en22 en23 en24 en25 en26 en27 en28 en29 en30 en31 en32 en33 en34 en35 en36 en37 en38 en39 en40 en41 en42 en43 en44 en45 en46 en47 en48 en49 en50 en51 en52 en53 en54 en55 en56 en57 en58 en59 en60 en61 en62 en63 en64 en65 en66 en67 en68 en69 en70 en71 en72 en73 en74 en75 en76 en77 en78 en79 en80 en81 en82 en83 en84 en85 en86 en87 en88 en89 en90 en91 en92 en93 en94 en95 en96 en97 en98 en99 en100 en101 en102 en103 en104 en105 en106 en107 en108 en109 en110 en111 en112 en113 en114 en115 en116 en117 en118 en119 en120 en121 en122 en123 en124 en125 en126 en127 en128 en129 en130 en131 en132 en133 en134 en135 en136 en137 en138 en139 en140 en141 en142 en143 en144 en145 en146 en147 en148 en149 en150 en151 en152 en153 en154 en155 en156 en157 en175 en177 en179
end Go.Proofs.YtmhcmpeffhlaeaaGreatT
