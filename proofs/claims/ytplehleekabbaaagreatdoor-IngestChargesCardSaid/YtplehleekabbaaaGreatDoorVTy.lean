/- YtplehleekabbaaaGreatDoorVTy: a text of the proof of this claim, by its prover. -/
import Derived.Test.YtplehleekabbaaaGreatDoorVS
import Derived.Test.YtplehleekabbaaaGreatDoorProg
import Derived.KernelRfl
namespace Go.Proofs.YtplehleekabbaaaGreatDoorT
open Go.Proofs.Vale Go.Proofs
theorem tk2 : tk Tryz.prog 2 = .int .i64 := by kernel_rfl
theorem tI2 : tI Tryz.prog 2 = some (1, false) := by kernel_rfl
theorem un2 : (∃ d, Tryz.prog.underlying 2 = some d) = True := eq_true ⟨_, tk_int tk2⟩
theorem zI2 : zI Tryz.prog 2 = some (.int .i64 0) := by kernel_rfl
theorem tk3 : tk Tryz.prog 3 = .int .i64 := by kernel_rfl
theorem tI3 : tI Tryz.prog 3 = some (1, false) := by kernel_rfl
theorem un3 : (∃ d, Tryz.prog.underlying 3 = some d) = True := eq_true ⟨_, tk_int tk3⟩
theorem zI3 : zI Tryz.prog 3 = some (.int .i64 0) := by kernel_rfl
theorem tk4 : tk Tryz.prog 4 = .bool := by kernel_rfl
theorem tI4 : tI Tryz.prog 4 = some (1, false) := by kernel_rfl
theorem zI4 : zI Tryz.prog 4 = some (.bool false) := by kernel_rfl
theorem tk5 : tk Tryz.prog 5 = .int .u8 := by kernel_rfl
theorem tI5 : tI Tryz.prog 5 = some (1, false) := by kernel_rfl
theorem un5 : (∃ d, Tryz.prog.underlying 5 = some d) = True := eq_true ⟨_, tk_int tk5⟩
theorem zI5 : zI Tryz.prog 5 = some (.int .u8 0) := by kernel_rfl
theorem tk6 : tk Tryz.prog 6 = .int .u8 := by kernel_rfl
theorem tI6 : tI Tryz.prog 6 = some (1, false) := by kernel_rfl
theorem un6 : (∃ d, Tryz.prog.underlying 6 = some d) = True := eq_true ⟨_, tk_int tk6⟩
theorem zI6 : zI Tryz.prog 6 = some (.int .u8 0) := by kernel_rfl
theorem tk7 : tk Tryz.prog 7 = .agg := by kernel_rfl
theorem tI7 : tI Tryz.prog 7 = some (4, true) := by kernel_rfl
theorem zI7 : zI Tryz.prog 7 = some (.agg [.int .i64 0, .int .i64 0, .bool false, .int .u8 0]) := by kernel_rfl
theorem fI7_0 : fI Tryz.prog 7 0 = some (0, 1, false) := by kernel_rfl
theorem fI7_1 : fI Tryz.prog 7 1 = some (1, 1, false) := by kernel_rfl
theorem fI7_2 : fI Tryz.prog 7 2 = some (2, 1, false) := by kernel_rfl
theorem fI7_3 : fI Tryz.prog 7 3 = some (3, 1, false) := by kernel_rfl
theorem bI7 : bI Tryz.prog 7 = some ([(0, 1), (1, 1), (2, 1), (3, 1)], [.int .i64 0, .int .i64 0, .bool false, .int .u8 0]) := by kernel_rfl
theorem tk8 : tk Tryz.prog 8 = .agg := by kernel_rfl
theorem tI8 : tI Tryz.prog 8 = some (4, true) := by kernel_rfl
theorem zI8 : zI Tryz.prog 8 = some (.agg [.int .i64 0, .int .i64 0, .bool false, .int .u8 0]) := by kernel_rfl
theorem fI8_0 : fI Tryz.prog 8 0 = some (0, 1, false) := by kernel_rfl
theorem fI8_1 : fI Tryz.prog 8 1 = some (1, 1, false) := by kernel_rfl
theorem fI8_2 : fI Tryz.prog 8 2 = some (2, 1, false) := by kernel_rfl
theorem fI8_3 : fI Tryz.prog 8 3 = some (3, 1, false) := by kernel_rfl
theorem bI8 : bI Tryz.prog 8 = some ([(0, 1), (1, 1), (2, 1), (3, 1)], [.int .i64 0, .int .i64 0, .bool false, .int .u8 0]) := by kernel_rfl
theorem tk9 : tk Tryz.prog 9 = .str := by kernel_rfl
theorem tI9 : tI Tryz.prog 9 = some (1, false) := by kernel_rfl
theorem un9 : (∃ d, Tryz.prog.underlying 9 = some d) = True := eq_true ⟨_, tk_str tk9⟩
theorem zI9 : zI Tryz.prog 9 = some (.str []) := by kernel_rfl
theorem tk10 : tk Tryz.prog 10 = .str := by kernel_rfl
theorem tI10 : tI Tryz.prog 10 = some (1, false) := by kernel_rfl
theorem un10 : (∃ d, Tryz.prog.underlying 10 = some d) = True := eq_true ⟨_, tk_str tk10⟩
theorem zI10 : zI Tryz.prog 10 = some (.str []) := by kernel_rfl
theorem tk11 : tk Tryz.prog 11 = .str := by kernel_rfl
theorem tI11 : tI Tryz.prog 11 = some (1, false) := by kernel_rfl
theorem un11 : (∃ d, Tryz.prog.underlying 11 = some d) = True := eq_true ⟨_, tk_str tk11⟩
theorem zI11 : zI Tryz.prog 11 = some (.str []) := by kernel_rfl
theorem tk12 : tk Tryz.prog 12 = .int .u64 := by kernel_rfl
theorem tI12 : tI Tryz.prog 12 = some (1, false) := by kernel_rfl
theorem un12 : (∃ d, Tryz.prog.underlying 12 = some d) = True := eq_true ⟨_, tk_int tk12⟩
theorem zI12 : zI Tryz.prog 12 = some (.int .u64 0) := by kernel_rfl
theorem tk13 : tk Tryz.prog 13 = .agg := by kernel_rfl
theorem tI13 : tI Tryz.prog 13 = some (2, true) := by kernel_rfl
theorem zI13 : zI Tryz.prog 13 = some (.agg [.str [], .int .u64 0]) := by kernel_rfl
theorem fI13_0 : fI Tryz.prog 13 0 = some (0, 1, false) := by kernel_rfl
theorem fI13_1 : fI Tryz.prog 13 1 = some (1, 1, false) := by kernel_rfl
theorem bI13 : bI Tryz.prog 13 = some ([(0, 1), (1, 1)], [.str [], .int .u64 0]) := by kernel_rfl
theorem tk14 : tk Tryz.prog 14 = .agg := by kernel_rfl
theorem tI14 : tI Tryz.prog 14 = some (2, true) := by kernel_rfl
theorem zI14 : zI Tryz.prog 14 = some (.agg [.str [], .int .u64 0]) := by kernel_rfl
theorem fI14_0 : fI Tryz.prog 14 0 = some (0, 1, false) := by kernel_rfl
theorem fI14_1 : fI Tryz.prog 14 1 = some (1, 1, false) := by kernel_rfl
theorem bI14 : bI Tryz.prog 14 = some ([(0, 1), (1, 1)], [.str [], .int .u64 0]) := by kernel_rfl
theorem tk15 : tk Tryz.prog 15 = .ptr := by kernel_rfl
theorem tI15 : tI Tryz.prog 15 = some (1, false) := by kernel_rfl
theorem zI15 : zI Tryz.prog 15 = some (.nilp) := by kernel_rfl
theorem tk16 : tk Tryz.prog 16 = .ptr := by kernel_rfl
theorem tI16 : tI Tryz.prog 16 = some (1, false) := by kernel_rfl
theorem zI16 : zI Tryz.prog 16 = some (.nilp) := by kernel_rfl
theorem tk17 : tk Tryz.prog 17 = .ptr := by kernel_rfl
theorem tI17 : tI Tryz.prog 17 = some (1, false) := by kernel_rfl
theorem zI17 : zI Tryz.prog 17 = some (.nilp) := by kernel_rfl
theorem tk18 : tk Tryz.prog 18 = .agg := by kernel_rfl
theorem tI18 : tI Tryz.prog 18 = some (1, true) := by kernel_rfl
theorem zI18 : zI Tryz.prog 18 = some (.agg [.nilp]) := by kernel_rfl
theorem fI18_0 : fI Tryz.prog 18 0 = some (0, 1, false) := by kernel_rfl
theorem bI18 : bI Tryz.prog 18 = some ([(0, 1)], [.nilp]) := by kernel_rfl
theorem tk19 : tk Tryz.prog 19 = .agg := by kernel_rfl
theorem tI19 : tI Tryz.prog 19 = some (1, true) := by kernel_rfl
theorem zI19 : zI Tryz.prog 19 = some (.agg [.nilp]) := by kernel_rfl
theorem fI19_0 : fI Tryz.prog 19 0 = some (0, 1, false) := by kernel_rfl
theorem bI19 : bI Tryz.prog 19 = some ([(0, 1)], [.nilp]) := by kernel_rfl
theorem tk20 : tk Tryz.prog 20 = .iface := by kernel_rfl
theorem tI20 : tI Tryz.prog 20 = some (1, false) := by kernel_rfl
theorem zI20 : zI Tryz.prog 20 = some (.nili) := by kernel_rfl
theorem tk21 : tk Tryz.prog 21 = .int .i32 := by kernel_rfl
theorem tI21 : tI Tryz.prog 21 = some (1, false) := by kernel_rfl
theorem un21 : (∃ d, Tryz.prog.underlying 21 = some d) = True := eq_true ⟨_, tk_int tk21⟩
theorem zI21 : zI Tryz.prog 21 = some (.int .i32 0) := by kernel_rfl
theorem tk22 : tk Tryz.prog 22 = .sl 9 := by kernel_rfl
theorem tI22 : tI Tryz.prog 22 = some (1, false) := by kernel_rfl
theorem un22 : (∃ d, Tryz.prog.underlying 22 = some d) = True := eq_true ⟨_, tk_sl tk22⟩
theorem zI22 : zI Tryz.prog 22 = some (.fz true []) := by kernel_rfl
theorem eI22 : eI Tryz.prog 22 = some (9, 1, 16) := by kernel_rfl
theorem tk23 : tk Tryz.prog 23 = .agg := by kernel_rfl
theorem tI23 : tI Tryz.prog 23 = some (2, true) := by kernel_rfl
theorem zI23 : zI Tryz.prog 23 = some (.agg [.fz true [], .fz true []]) := by kernel_rfl
theorem fI23_0 : fI Tryz.prog 23 0 = some (0, 1, false) := by kernel_rfl
theorem fI23_1 : fI Tryz.prog 23 1 = some (1, 1, false) := by kernel_rfl
theorem bI23 : bI Tryz.prog 23 = some ([(0, 1), (1, 1)], [.fz true [], .fz true []]) := by kernel_rfl
theorem tk24 : tk Tryz.prog 24 = .agg := by kernel_rfl
theorem tI24 : tI Tryz.prog 24 = some (2, true) := by kernel_rfl
theorem zI24 : zI Tryz.prog 24 = some (.agg [.fz true [], .fz true []]) := by kernel_rfl
theorem fI24_0 : fI Tryz.prog 24 0 = some (0, 1, false) := by kernel_rfl
theorem fI24_1 : fI Tryz.prog 24 1 = some (1, 1, false) := by kernel_rfl
theorem bI24 : bI Tryz.prog 24 = some ([(0, 1), (1, 1)], [.fz true [], .fz true []]) := by kernel_rfl
theorem tk25 : tk Tryz.prog 25 = .sl 3 := by kernel_rfl
theorem tI25 : tI Tryz.prog 25 = some (1, false) := by kernel_rfl
theorem un25 : (∃ d, Tryz.prog.underlying 25 = some d) = True := eq_true ⟨_, tk_sl tk25⟩
theorem zI25 : zI Tryz.prog 25 = some (.fz true []) := by kernel_rfl
theorem eI25 : eI Tryz.prog 25 = some (3, 1, 8) := by kernel_rfl
theorem tk26 : tk Tryz.prog 26 = .agg := by kernel_rfl
theorem tI26 : tI Tryz.prog 26 = some (2, true) := by kernel_rfl
theorem zI26 : zI Tryz.prog 26 = some (.agg [.int .i64 0, .fz true []]) := by kernel_rfl
theorem fI26_0 : fI Tryz.prog 26 0 = some (0, 1, false) := by kernel_rfl
theorem fI26_1 : fI Tryz.prog 26 1 = some (1, 1, false) := by kernel_rfl
theorem bI26 : bI Tryz.prog 26 = some ([(0, 1), (1, 1)], [.int .i64 0, .fz true []]) := by kernel_rfl
theorem tk27 : tk Tryz.prog 27 = .agg := by kernel_rfl
theorem tI27 : tI Tryz.prog 27 = some (2, true) := by kernel_rfl
theorem zI27 : zI Tryz.prog 27 = some (.agg [.int .i64 0, .fz true []]) := by kernel_rfl
theorem fI27_0 : fI Tryz.prog 27 0 = some (0, 1, false) := by kernel_rfl
theorem fI27_1 : fI Tryz.prog 27 1 = some (1, 1, false) := by kernel_rfl
theorem bI27 : bI Tryz.prog 27 = some ([(0, 1), (1, 1)], [.int .i64 0, .fz true []]) := by kernel_rfl
theorem tk28 : tk Tryz.prog 28 = .agg := by kernel_rfl
theorem tI28 : tI Tryz.prog 28 = some (3, true) := by kernel_rfl
theorem zI28 : zI Tryz.prog 28 = some (.agg [.int .i64 0, .fz true [], .fz true []]) := by kernel_rfl
theorem fI28_0 : fI Tryz.prog 28 0 = some (0, 1, false) := by kernel_rfl
theorem fI28_1 : fI Tryz.prog 28 1 = some (1, 1, false) := by kernel_rfl
theorem fI28_2 : fI Tryz.prog 28 2 = some (2, 1, false) := by kernel_rfl
theorem bI28 : bI Tryz.prog 28 = some ([(0, 1), (1, 1), (2, 1)], [.int .i64 0, .fz true [], .fz true []]) := by kernel_rfl
theorem tk29 : tk Tryz.prog 29 = .agg := by kernel_rfl
theorem tI29 : tI Tryz.prog 29 = some (3, true) := by kernel_rfl
theorem zI29 : zI Tryz.prog 29 = some (.agg [.int .i64 0, .fz true [], .fz true []]) := by kernel_rfl
theorem fI29_0 : fI Tryz.prog 29 0 = some (0, 1, false) := by kernel_rfl
theorem fI29_1 : fI Tryz.prog 29 1 = some (1, 1, false) := by kernel_rfl
theorem fI29_2 : fI Tryz.prog 29 2 = some (2, 1, false) := by kernel_rfl
theorem bI29 : bI Tryz.prog 29 = some ([(0, 1), (1, 1), (2, 1)], [.int .i64 0, .fz true [], .fz true []]) := by kernel_rfl
theorem tk31 : tk Tryz.prog 31 = .sl 29 := by kernel_rfl
theorem tI31 : tI Tryz.prog 31 = some (1, false) := by kernel_rfl
theorem un31 : (∃ d, Tryz.prog.underlying 31 = some d) = True := eq_true ⟨_, tk_sl tk31⟩
theorem zI31 : zI Tryz.prog 31 = some (.fz true []) := by kernel_rfl
theorem eI31 : eI Tryz.prog 31 = some (29, 3, 56) := by kernel_rfl
theorem tk34 : tk Tryz.prog 34 = .int .i64 := by kernel_rfl
theorem tI34 : tI Tryz.prog 34 = some (1, false) := by kernel_rfl
theorem un34 : (∃ d, Tryz.prog.underlying 34 = some d) = True := eq_true ⟨_, tk_int tk34⟩
theorem zI34 : zI Tryz.prog 34 = some (.int .i64 0) := by kernel_rfl
theorem tk39 : tk Tryz.prog 39 = .ptr := by kernel_rfl
theorem tI39 : tI Tryz.prog 39 = some (1, false) := by kernel_rfl
theorem zI39 : zI Tryz.prog 39 = some (.nilp) := by kernel_rfl
theorem tk43 : tk Tryz.prog 43 = .sl 47 := by kernel_rfl
theorem tI43 : tI Tryz.prog 43 = some (1, false) := by kernel_rfl
theorem un43 : (∃ d, Tryz.prog.underlying 43 = some d) = True := eq_true ⟨_, tk_sl tk43⟩
theorem zI43 : zI Tryz.prog 43 = some (.fz true []) := by kernel_rfl
theorem eI43 : eI Tryz.prog 43 = some (47, 4, 64) := by kernel_rfl
theorem tk45 : tk Tryz.prog 45 = .sl 64 := by kernel_rfl
theorem tI45 : tI Tryz.prog 45 = some (1, false) := by kernel_rfl
theorem un45 : (∃ d, Tryz.prog.underlying 45 = some d) = True := eq_true ⟨_, tk_sl tk45⟩
theorem zI45 : zI Tryz.prog 45 = some (.fz true []) := by kernel_rfl
theorem eI45 : eI Tryz.prog 45 = some (64, 3, 24) := by kernel_rfl
theorem tk46 : tk Tryz.prog 46 = .agg := by kernel_rfl
theorem tI46 : tI Tryz.prog 46 = some (4, true) := by kernel_rfl
theorem zI46 : zI Tryz.prog 46 = some (.agg [.int .i64 0, .fz true [], .int .i64 0, .fz true []]) := by kernel_rfl
theorem fI46_0 : fI Tryz.prog 46 0 = some (0, 1, false) := by kernel_rfl
theorem fI46_1 : fI Tryz.prog 46 1 = some (1, 1, false) := by kernel_rfl
theorem fI46_2 : fI Tryz.prog 46 2 = some (2, 1, false) := by kernel_rfl
theorem fI46_3 : fI Tryz.prog 46 3 = some (3, 1, false) := by kernel_rfl
theorem bI46 : bI Tryz.prog 46 = some ([(0, 1), (1, 1), (2, 1), (3, 1)], [.int .i64 0, .fz true [], .int .i64 0, .fz true []]) := by kernel_rfl
theorem tk47 : tk Tryz.prog 47 = .agg := by kernel_rfl
theorem tI47 : tI Tryz.prog 47 = some (4, true) := by kernel_rfl
theorem zI47 : zI Tryz.prog 47 = some (.agg [.int .i64 0, .fz true [], .int .i64 0, .fz true []]) := by kernel_rfl
theorem fI47_0 : fI Tryz.prog 47 0 = some (0, 1, false) := by kernel_rfl
theorem fI47_1 : fI Tryz.prog 47 1 = some (1, 1, false) := by kernel_rfl
theorem fI47_2 : fI Tryz.prog 47 2 = some (2, 1, false) := by kernel_rfl
theorem fI47_3 : fI Tryz.prog 47 3 = some (3, 1, false) := by kernel_rfl
theorem bI47 : bI Tryz.prog 47 = some ([(0, 1), (1, 1), (2, 1), (3, 1)], [.int .i64 0, .fz true [], .int .i64 0, .fz true []]) := by kernel_rfl
theorem tk53 : tk Tryz.prog 53 = .ptr := by kernel_rfl
theorem tI53 : tI Tryz.prog 53 = some (1, false) := by kernel_rfl
theorem zI53 : zI Tryz.prog 53 = some (.nilp) := by kernel_rfl
theorem tk57 : tk Tryz.prog 57 = .agg := by kernel_rfl
theorem tI57 : tI Tryz.prog 57 = some (4, true) := by kernel_rfl
theorem zI57 : zI Tryz.prog 57 = some (.agg [.fz true [], .fz true [], .int .i64 0, .fz true []]) := by kernel_rfl
theorem fI57_0 : fI Tryz.prog 57 0 = some (0, 2, true) := by kernel_rfl
theorem fI57_1 : fI Tryz.prog 57 1 = some (2, 1, false) := by kernel_rfl
theorem fI57_2 : fI Tryz.prog 57 2 = some (3, 1, false) := by kernel_rfl
theorem bI57 : bI Tryz.prog 57 = some ([(0, 2), (2, 1), (3, 1)], [.fz true [], .fz true [], .int .i64 0, .fz true []]) := by kernel_rfl
theorem tk58 : tk Tryz.prog 58 = .agg := by kernel_rfl
theorem tI58 : tI Tryz.prog 58 = some (4, true) := by kernel_rfl
theorem zI58 : zI Tryz.prog 58 = some (.agg [.fz true [], .fz true [], .int .i64 0, .fz true []]) := by kernel_rfl
theorem fI58_0 : fI Tryz.prog 58 0 = some (0, 2, true) := by kernel_rfl
theorem fI58_1 : fI Tryz.prog 58 1 = some (2, 1, false) := by kernel_rfl
theorem fI58_2 : fI Tryz.prog 58 2 = some (3, 1, false) := by kernel_rfl
theorem bI58 : bI Tryz.prog 58 = some ([(0, 2), (2, 1), (3, 1)], [.fz true [], .fz true [], .int .i64 0, .fz true []]) := by kernel_rfl
theorem tk63 : tk Tryz.prog 63 = .agg := by kernel_rfl
theorem tI63 : tI Tryz.prog 63 = some (3, true) := by kernel_rfl
theorem zI63 : zI Tryz.prog 63 = some (.agg [.int .i64 0, .int .i64 0, .int .i64 0]) := by kernel_rfl
theorem fI63_0 : fI Tryz.prog 63 0 = some (0, 1, false) := by kernel_rfl
theorem fI63_1 : fI Tryz.prog 63 1 = some (1, 1, false) := by kernel_rfl
theorem fI63_2 : fI Tryz.prog 63 2 = some (2, 1, false) := by kernel_rfl
theorem bI63 : bI Tryz.prog 63 = some ([(0, 1), (1, 1), (2, 1)], [.int .i64 0, .int .i64 0, .int .i64 0]) := by kernel_rfl
theorem tk64 : tk Tryz.prog 64 = .agg := by kernel_rfl
theorem tI64 : tI Tryz.prog 64 = some (3, true) := by kernel_rfl
theorem zI64 : zI Tryz.prog 64 = some (.agg [.int .i64 0, .int .i64 0, .int .i64 0]) := by kernel_rfl
theorem fI64_0 : fI Tryz.prog 64 0 = some (0, 1, false) := by kernel_rfl
theorem fI64_1 : fI Tryz.prog 64 1 = some (1, 1, false) := by kernel_rfl
theorem fI64_2 : fI Tryz.prog 64 2 = some (2, 1, false) := by kernel_rfl
theorem bI64 : bI Tryz.prog 64 = some ([(0, 1), (1, 1), (2, 1)], [.int .i64 0, .int .i64 0, .int .i64 0]) := by kernel_rfl
theorem flatI64 : flatI Tryz.prog 64 = true := by kernel_rfl
theorem flatK64 : flatK Tryz.prog 64 = [.int .i64, .int .i64, .int .i64] := by kernel_rfl
theorem tk71 : tk Tryz.prog 71 = .map 9 47 := by kernel_rfl
theorem tI71 : tI Tryz.prog 71 = some (1, false) := by kernel_rfl
theorem zI71 : zI Tryz.prog 71 = some (.nilm) := by kernel_rfl
theorem tk72 : tk Tryz.prog 72 = .agg := by kernel_rfl
theorem tI72 : tI Tryz.prog 72 = some (5, true) := by kernel_rfl
theorem zI72 : zI Tryz.prog 72 = some (.agg [.fz true [], .fz true [], .int .i64 0, .nilm, .int .i64 0]) := by kernel_rfl
theorem fI72_0 : fI Tryz.prog 72 0 = some (0, 2, true) := by kernel_rfl
theorem fI72_1 : fI Tryz.prog 72 1 = some (2, 1, false) := by kernel_rfl
theorem fI72_2 : fI Tryz.prog 72 2 = some (3, 1, false) := by kernel_rfl
theorem fI72_3 : fI Tryz.prog 72 3 = some (4, 1, false) := by kernel_rfl
theorem bI72 : bI Tryz.prog 72 = some ([(0, 2), (2, 1), (3, 1), (4, 1)], [.fz true [], .fz true [], .int .i64 0, .nilm, .int .i64 0]) := by kernel_rfl
theorem tk73 : tk Tryz.prog 73 = .agg := by kernel_rfl
theorem tI73 : tI Tryz.prog 73 = some (5, true) := by kernel_rfl
theorem zI73 : zI Tryz.prog 73 = some (.agg [.fz true [], .fz true [], .int .i64 0, .nilm, .int .i64 0]) := by kernel_rfl
theorem fI73_0 : fI Tryz.prog 73 0 = some (0, 2, true) := by kernel_rfl
theorem fI73_1 : fI Tryz.prog 73 1 = some (2, 1, false) := by kernel_rfl
theorem fI73_2 : fI Tryz.prog 73 2 = some (3, 1, false) := by kernel_rfl
theorem fI73_3 : fI Tryz.prog 73 3 = some (4, 1, false) := by kernel_rfl
theorem bI73 : bI Tryz.prog 73 = some ([(0, 2), (2, 1), (3, 1), (4, 1)], [.fz true [], .fz true [], .int .i64 0, .nilm, .int .i64 0]) := by kernel_rfl
theorem tk121 : tk Tryz.prog 121 = .sl 22 := by kernel_rfl
theorem tI121 : tI Tryz.prog 121 = some (1, false) := by kernel_rfl
theorem un121 : (∃ d, Tryz.prog.underlying 121 = some d) = True := eq_true ⟨_, tk_sl tk121⟩
theorem zI121 : zI Tryz.prog 121 = some (.fz true []) := by kernel_rfl
theorem eI121 : eI Tryz.prog 121 = some (22, 1, 24) := by kernel_rfl
theorem tk125 : tk Tryz.prog 125 = .int .u64 := by kernel_rfl
theorem tI125 : tI Tryz.prog 125 = some (1, false) := by kernel_rfl
theorem un125 : (∃ d, Tryz.prog.underlying 125 = some d) = True := eq_true ⟨_, tk_int tk125⟩
theorem zI125 : zI Tryz.prog 125 = some (.int .u64 0) := by kernel_rfl
theorem tk127 : tk Tryz.prog 127 = .ptr := by kernel_rfl
theorem tI127 : tI Tryz.prog 127 = some (1, false) := by kernel_rfl
theorem zI127 : zI Tryz.prog 127 = some (.nilp) := by kernel_rfl
theorem tk128 : tk Tryz.prog 128 = .sl 5 := by kernel_rfl
theorem tI128 : tI Tryz.prog 128 = some (1, false) := by kernel_rfl
theorem un128 : (∃ d, Tryz.prog.underlying 128 = some d) = True := eq_true ⟨_, tk_sl tk128⟩
theorem zI128 : zI Tryz.prog 128 = some (.fz true []) := by kernel_rfl
theorem eI128 : eI Tryz.prog 128 = some (5, 1, 1) := by kernel_rfl
theorem tk129 : tk Tryz.prog 129 = .agg := by kernel_rfl
theorem tI129 : tI Tryz.prog 129 = some (2, true) := by kernel_rfl
theorem zI129 : zI Tryz.prog 129 = some (.agg [.nilp, .fz true []]) := by kernel_rfl
theorem fI129_0 : fI Tryz.prog 129 0 = some (0, 1, false) := by kernel_rfl
theorem fI129_1 : fI Tryz.prog 129 1 = some (1, 1, false) := by kernel_rfl
theorem bI129 : bI Tryz.prog 129 = some ([(0, 1), (1, 1)], [.nilp, .fz true []]) := by kernel_rfl
theorem tk130 : tk Tryz.prog 130 = .agg := by kernel_rfl
theorem tI130 : tI Tryz.prog 130 = some (2, true) := by kernel_rfl
theorem zI130 : zI Tryz.prog 130 = some (.agg [.nilp, .fz true []]) := by kernel_rfl
theorem fI130_0 : fI Tryz.prog 130 0 = some (0, 1, false) := by kernel_rfl
theorem fI130_1 : fI Tryz.prog 130 1 = some (1, 1, false) := by kernel_rfl
theorem bI130 : bI Tryz.prog 130 = some ([(0, 1), (1, 1)], [.nilp, .fz true []]) := by kernel_rfl
theorem tk132 : tk Tryz.prog 132 = .iface := by kernel_rfl
theorem tI132 : tI Tryz.prog 132 = some (1, false) := by kernel_rfl
theorem zI132 : zI Tryz.prog 132 = some (.nili) := by kernel_rfl
theorem tk133 : tk Tryz.prog 133 = .iface := by kernel_rfl
theorem tI133 : tI Tryz.prog 133 = some (1, false) := by kernel_rfl
theorem zI133 : zI Tryz.prog 133 = some (.nili) := by kernel_rfl
theorem tk145 : tk Tryz.prog 145 = .int .i64 := by kernel_rfl
theorem tI145 : tI Tryz.prog 145 = some (1, false) := by kernel_rfl
theorem un145 : (∃ d, Tryz.prog.underlying 145 = some d) = True := eq_true ⟨_, tk_int tk145⟩
theorem zI145 : zI Tryz.prog 145 = some (.int .i64 0) := by kernel_rfl
theorem tk152 : tk Tryz.prog 152 = .int .u32 := by kernel_rfl
theorem tI152 : tI Tryz.prog 152 = some (1, false) := by kernel_rfl
theorem un152 : (∃ d, Tryz.prog.underlying 152 = some d) = True := eq_true ⟨_, tk_int tk152⟩
theorem zI152 : zI Tryz.prog 152 = some (.int .u32 0) := by kernel_rfl
theorem tk154 : tk Tryz.prog 154 = .int .u64 := by kernel_rfl
theorem tI154 : tI Tryz.prog 154 = some (1, false) := by kernel_rfl
theorem un154 : (∃ d, Tryz.prog.underlying 154 = some d) = True := eq_true ⟨_, tk_int tk154⟩
theorem zI154 : zI Tryz.prog 154 = some (.int .u64 0) := by kernel_rfl
theorem tk158 : tk Tryz.prog 158 = .ptr := by kernel_rfl
theorem tI158 : tI Tryz.prog 158 = some (1, false) := by kernel_rfl
theorem zI158 : zI Tryz.prog 158 = some (.nilp) := by kernel_rfl
theorem tk164 : tk Tryz.prog 164 = .agg := by kernel_rfl
theorem tI164 : tI Tryz.prog 164 = some (256, true) := by kernel_rfl
theorem aI164 : aI Tryz.prog 164 = some (256, 1, false) := by kernel_rfl
theorem tk165 : tk Tryz.prog 165 = .agg := by kernel_rfl
theorem tI165 : tI Tryz.prog 165 = some (256, true) := by kernel_rfl
theorem aI165 : aI Tryz.prog 165 = some (256, 1, false) := by kernel_rfl
theorem tk170 : tk Tryz.prog 170 = .int .u64 := by kernel_rfl
theorem tI170 : tI Tryz.prog 170 = some (1, false) := by kernel_rfl
theorem un170 : (∃ d, Tryz.prog.underlying 170 = some d) = True := eq_true ⟨_, tk_int tk170⟩
theorem zI170 : zI Tryz.prog 170 = some (.int .u64 0) := by kernel_rfl
theorem tk174 : tk Tryz.prog 174 = .ptr := by kernel_rfl
theorem tI174 : tI Tryz.prog 174 = some (1, false) := by kernel_rfl
theorem zI174 : zI Tryz.prog 174 = some (.nilp) := by kernel_rfl
theorem tk176 : tk Tryz.prog 176 = .agg := by kernel_rfl
theorem tI176 : tI Tryz.prog 176 = some (256, true) := by kernel_rfl
theorem aI176 : aI Tryz.prog 176 = some (256, 1, false) := by kernel_rfl
theorem tk178 : tk Tryz.prog 178 = .agg := by kernel_rfl
theorem tI178 : tI Tryz.prog 178 = some (24, true) := by kernel_rfl
theorem zI178 : zI Tryz.prog 178 = some (.agg [.int .u8 0, .int .u8 0, .int .u8 0, .int .u8 0, .int .u8 0, .int .u8 0, .int .u8 0, .int .u8 0, .int .u8 0, .int .u8 0, .int .u8 0, .int .u8 0, .int .u8 0, .int .u8 0, .int .u8 0, .int .u8 0, .int .u8 0, .int .u8 0, .int .u8 0, .int .u8 0, .int .u8 0, .int .u8 0, .int .u8 0, .int .u8 0]) := by kernel_rfl
theorem aI178 : aI Tryz.prog 178 = some (24, 1, false) := by kernel_rfl
theorem tk188 : tk Tryz.prog 188 = .ptr := by kernel_rfl
theorem tI188 : tI Tryz.prog 188 = some (1, false) := by kernel_rfl
theorem zI188 : zI Tryz.prog 188 = some (.nilp) := by kernel_rfl
theorem tk189 : tk Tryz.prog 189 = .ptr := by kernel_rfl
theorem tI189 : tI Tryz.prog 189 = some (1, false) := by kernel_rfl
theorem zI189 : zI Tryz.prog 189 = some (.nilp) := by kernel_rfl
theorem tk192 : tk Tryz.prog 192 = .sl 194 := by kernel_rfl
theorem tI192 : tI Tryz.prog 192 = some (1, false) := by kernel_rfl
theorem un192 : (∃ d, Tryz.prog.underlying 192 = some d) = True := eq_true ⟨_, tk_sl tk192⟩
theorem zI192 : zI Tryz.prog 192 = some (.fz true []) := by kernel_rfl
theorem eI192 : eI Tryz.prog 192 = some (194, 2, 16) := by kernel_rfl
theorem tk193 : tk Tryz.prog 193 = .agg := by kernel_rfl
theorem tI193 : tI Tryz.prog 193 = some (2, true) := by kernel_rfl
theorem zI193 : zI Tryz.prog 193 = some (.agg [.int .i64 0, .int .i64 0]) := by kernel_rfl
theorem fI193_0 : fI Tryz.prog 193 0 = some (0, 1, false) := by kernel_rfl
theorem fI193_1 : fI Tryz.prog 193 1 = some (1, 1, false) := by kernel_rfl
theorem bI193 : bI Tryz.prog 193 = some ([(0, 1), (1, 1)], [.int .i64 0, .int .i64 0]) := by kernel_rfl
theorem tk194 : tk Tryz.prog 194 = .agg := by kernel_rfl
theorem tI194 : tI Tryz.prog 194 = some (2, true) := by kernel_rfl
theorem zI194 : zI Tryz.prog 194 = some (.agg [.int .i64 0, .int .i64 0]) := by kernel_rfl
theorem fI194_0 : fI Tryz.prog 194 0 = some (0, 1, false) := by kernel_rfl
theorem fI194_1 : fI Tryz.prog 194 1 = some (1, 1, false) := by kernel_rfl
theorem bI194 : bI Tryz.prog 194 = some ([(0, 1), (1, 1)], [.int .i64 0, .int .i64 0]) := by kernel_rfl
theorem tk196 : tk Tryz.prog 196 = .ptr := by kernel_rfl
theorem tI196 : tI Tryz.prog 196 = some (1, false) := by kernel_rfl
theorem zI196 : zI Tryz.prog 196 = some (.nilp) := by kernel_rfl
theorem tk198 : tk Tryz.prog 198 = .agg := by kernel_rfl
theorem tI198 : tI Tryz.prog 198 = some (20, true) := by kernel_rfl
theorem zI198 : zI Tryz.prog 198 = some (.agg [.int .u64 0, .int .u64 0, .int .u64 0, .int .u64 0, .int .u64 0, .int .u64 0, .int .u64 0, .int .u64 0, .int .u64 0, .int .u64 0, .int .u64 0, .int .u64 0, .int .u64 0, .int .u64 0, .int .u64 0, .int .u64 0, .int .u64 0, .int .u64 0, .int .u64 0, .int .u64 0]) := by kernel_rfl
theorem aI198 : aI Tryz.prog 198 = some (20, 1, false) := by kernel_rfl
theorem tk199 : tk Tryz.prog 199 = .agg := by kernel_rfl
theorem tI199 : tI Tryz.prog 199 = some (65, true) := by kernel_rfl
theorem aI199 : aI Tryz.prog 199 = some (65, 1, false) := by kernel_rfl
theorem tk201 : tk Tryz.prog 201 = .sl 207 := by kernel_rfl
theorem tI201 : tI Tryz.prog 201 = some (1, false) := by kernel_rfl
theorem un201 : (∃ d, Tryz.prog.underlying 201 = some d) = True := eq_true ⟨_, tk_sl tk201⟩
theorem zI201 : zI Tryz.prog 201 = some (.fz true []) := by kernel_rfl
theorem eI201 : eI Tryz.prog 201 = some (207, 3, 6) := by kernel_rfl
theorem tk202 : tk Tryz.prog 202 = .sl 210 := by kernel_rfl
theorem tI202 : tI Tryz.prog 202 = some (1, false) := by kernel_rfl
theorem un202 : (∃ d, Tryz.prog.underlying 202 = some d) = True := eq_true ⟨_, tk_sl tk202⟩
theorem zI202 : zI Tryz.prog 202 = some (.fz true []) := by kernel_rfl
theorem eI202 : eI Tryz.prog 202 = some (210, 3, 12) := by kernel_rfl
theorem tk203 : tk Tryz.prog 203 = .agg := by kernel_rfl
theorem tI203 : tI Tryz.prog 203 = some (3, true) := by kernel_rfl
theorem zI203 : zI Tryz.prog 203 = some (.agg [.fz true [], .fz true [], .int .i64 0]) := by kernel_rfl
theorem fI203_0 : fI Tryz.prog 203 0 = some (0, 1, false) := by kernel_rfl
theorem fI203_1 : fI Tryz.prog 203 1 = some (1, 1, false) := by kernel_rfl
theorem fI203_2 : fI Tryz.prog 203 2 = some (2, 1, false) := by kernel_rfl
theorem bI203 : bI Tryz.prog 203 = some ([(0, 1), (1, 1), (2, 1)], [.fz true [], .fz true [], .int .i64 0]) := by kernel_rfl
theorem tk204 : tk Tryz.prog 204 = .agg := by kernel_rfl
theorem tI204 : tI Tryz.prog 204 = some (3, true) := by kernel_rfl
theorem zI204 : zI Tryz.prog 204 = some (.agg [.fz true [], .fz true [], .int .i64 0]) := by kernel_rfl
theorem fI204_0 : fI Tryz.prog 204 0 = some (0, 1, false) := by kernel_rfl
theorem fI204_1 : fI Tryz.prog 204 1 = some (1, 1, false) := by kernel_rfl
theorem fI204_2 : fI Tryz.prog 204 2 = some (2, 1, false) := by kernel_rfl
theorem bI204 : bI Tryz.prog 204 = some ([(0, 1), (1, 1), (2, 1)], [.fz true [], .fz true [], .int .i64 0]) := by kernel_rfl
theorem tk205 : tk Tryz.prog 205 = .int .u16 := by kernel_rfl
theorem tI205 : tI Tryz.prog 205 = some (1, false) := by kernel_rfl
theorem un205 : (∃ d, Tryz.prog.underlying 205 = some d) = True := eq_true ⟨_, tk_int tk205⟩
theorem zI205 : zI Tryz.prog 205 = some (.int .u16 0) := by kernel_rfl
theorem tk206 : tk Tryz.prog 206 = .agg := by kernel_rfl
theorem tI206 : tI Tryz.prog 206 = some (3, true) := by kernel_rfl
theorem zI206 : zI Tryz.prog 206 = some (.agg [.int .u16 0, .int .u16 0, .int .u16 0]) := by kernel_rfl
theorem fI206_0 : fI Tryz.prog 206 0 = some (0, 1, false) := by kernel_rfl
theorem fI206_1 : fI Tryz.prog 206 1 = some (1, 1, false) := by kernel_rfl
theorem fI206_2 : fI Tryz.prog 206 2 = some (2, 1, false) := by kernel_rfl
theorem bI206 : bI Tryz.prog 206 = some ([(0, 1), (1, 1), (2, 1)], [.int .u16 0, .int .u16 0, .int .u16 0]) := by kernel_rfl
theorem tk207 : tk Tryz.prog 207 = .agg := by kernel_rfl
theorem tI207 : tI Tryz.prog 207 = some (3, true) := by kernel_rfl
theorem zI207 : zI Tryz.prog 207 = some (.agg [.int .u16 0, .int .u16 0, .int .u16 0]) := by kernel_rfl
theorem fI207_0 : fI Tryz.prog 207 0 = some (0, 1, false) := by kernel_rfl
theorem fI207_1 : fI Tryz.prog 207 1 = some (1, 1, false) := by kernel_rfl
theorem fI207_2 : fI Tryz.prog 207 2 = some (2, 1, false) := by kernel_rfl
theorem bI207 : bI Tryz.prog 207 = some ([(0, 1), (1, 1), (2, 1)], [.int .u16 0, .int .u16 0, .int .u16 0]) := by kernel_rfl
theorem tk209 : tk Tryz.prog 209 = .agg := by kernel_rfl
theorem tI209 : tI Tryz.prog 209 = some (3, true) := by kernel_rfl
theorem zI209 : zI Tryz.prog 209 = some (.agg [.int .u32 0, .int .u32 0, .int .u32 0]) := by kernel_rfl
theorem fI209_0 : fI Tryz.prog 209 0 = some (0, 1, false) := by kernel_rfl
theorem fI209_1 : fI Tryz.prog 209 1 = some (1, 1, false) := by kernel_rfl
theorem fI209_2 : fI Tryz.prog 209 2 = some (2, 1, false) := by kernel_rfl
theorem bI209 : bI Tryz.prog 209 = some ([(0, 1), (1, 1), (2, 1)], [.int .u32 0, .int .u32 0, .int .u32 0]) := by kernel_rfl
theorem tk210 : tk Tryz.prog 210 = .agg := by kernel_rfl
theorem tI210 : tI Tryz.prog 210 = some (3, true) := by kernel_rfl
theorem zI210 : zI Tryz.prog 210 = some (.agg [.int .u32 0, .int .u32 0, .int .u32 0]) := by kernel_rfl
theorem fI210_0 : fI Tryz.prog 210 0 = some (0, 1, false) := by kernel_rfl
theorem fI210_1 : fI Tryz.prog 210 1 = some (1, 1, false) := by kernel_rfl
theorem fI210_2 : fI Tryz.prog 210 2 = some (2, 1, false) := by kernel_rfl
theorem bI210 : bI Tryz.prog 210 = some ([(0, 1), (1, 1), (2, 1)], [.int .u32 0, .int .u32 0, .int .u32 0]) := by kernel_rfl
theorem tk212 : tk Tryz.prog 212 = .ptr := by kernel_rfl
theorem tI212 : tI Tryz.prog 212 = some (1, false) := by kernel_rfl
theorem zI212 : zI Tryz.prog 212 = some (.nilp) := by kernel_rfl
theorem tk213 : tk Tryz.prog 213 = .ptr := by kernel_rfl
theorem tI213 : tI Tryz.prog 213 = some (1, false) := by kernel_rfl
theorem zI213 : zI Tryz.prog 213 = some (.nilp) := by kernel_rfl
theorem tk214 : tk Tryz.prog 214 = .agg := by kernel_rfl
theorem tI214 : tI Tryz.prog 214 = some (32, true) := by kernel_rfl
theorem zI214 : zI Tryz.prog 214 = some (.agg [.int .u8 0, .int .u8 0, .int .u8 0, .int .u8 0, .int .u8 0, .int .u8 0, .int .u8 0, .int .u8 0, .int .u8 0, .int .u8 0, .int .u8 0, .int .u8 0, .int .u8 0, .int .u8 0, .int .u8 0, .int .u8 0, .int .u8 0, .int .u8 0, .int .u8 0, .int .u8 0, .int .u8 0, .int .u8 0, .int .u8 0, .int .u8 0, .int .u8 0, .int .u8 0, .int .u8 0, .int .u8 0, .int .u8 0, .int .u8 0, .int .u8 0, .int .u8 0]) := by kernel_rfl
theorem aI214 : aI Tryz.prog 214 = some (32, 1, false) := by kernel_rfl
theorem tk215 : tk Tryz.prog 215 = .agg := by kernel_rfl
theorem tI215 : tI Tryz.prog 215 = some (64, true) := by kernel_rfl
theorem aI215 : aI Tryz.prog 215 = some (64, 1, false) := by kernel_rfl
theorem tk216 : tk Tryz.prog 216 = .agg := by kernel_rfl
theorem tI216 : tI Tryz.prog 216 = some (4, true) := by kernel_rfl
theorem zI216 : zI Tryz.prog 216 = some (.agg [.nilp, .nilp, .nilp, .str []]) := by kernel_rfl
theorem fI216_0 : fI Tryz.prog 216 0 = some (0, 1, false) := by kernel_rfl
theorem fI216_1 : fI Tryz.prog 216 1 = some (1, 1, false) := by kernel_rfl
theorem fI216_2 : fI Tryz.prog 216 2 = some (2, 1, false) := by kernel_rfl
theorem fI216_3 : fI Tryz.prog 216 3 = some (3, 1, false) := by kernel_rfl
theorem bI216 : bI Tryz.prog 216 = some ([(0, 1), (1, 1), (2, 1), (3, 1)], [.nilp, .nilp, .nilp, .str []]) := by kernel_rfl
theorem tk217 : tk Tryz.prog 217 = .agg := by kernel_rfl
theorem tI217 : tI Tryz.prog 217 = some (4, true) := by kernel_rfl
theorem zI217 : zI Tryz.prog 217 = some (.agg [.nilp, .nilp, .nilp, .str []]) := by kernel_rfl
theorem fI217_0 : fI Tryz.prog 217 0 = some (0, 1, false) := by kernel_rfl
theorem fI217_1 : fI Tryz.prog 217 1 = some (1, 1, false) := by kernel_rfl
theorem fI217_2 : fI Tryz.prog 217 2 = some (2, 1, false) := by kernel_rfl
theorem fI217_3 : fI Tryz.prog 217 3 = some (3, 1, false) := by kernel_rfl
theorem bI217 : bI Tryz.prog 217 = some ([(0, 1), (1, 1), (2, 1), (3, 1)], [.nilp, .nilp, .nilp, .str []]) := by kernel_rfl
theorem tk218 : tk Tryz.prog 218 = .agg := by kernel_rfl
theorem tI218 : tI Tryz.prog 218 = some (0, true) := by kernel_rfl
theorem zI218 : zI Tryz.prog 218 = some (.agg []) := by kernel_rfl
theorem aI218 : aI Tryz.prog 218 = some (0, 1, false) := by kernel_rfl
theorem tk219 : tk Tryz.prog 219 = .agg := by kernel_rfl
theorem tI219 : tI Tryz.prog 219 = some (0, true) := by kernel_rfl
theorem zI219 : zI Tryz.prog 219 = some (.agg []) := by kernel_rfl
theorem bI219 : bI Tryz.prog 219 = some ([(0, 0)], []) := by kernel_rfl
theorem tk220 : tk Tryz.prog 220 = .agg := by kernel_rfl
theorem tI220 : tI Tryz.prog 220 = some (0, true) := by kernel_rfl
theorem zI220 : zI Tryz.prog 220 = some (.agg []) := by kernel_rfl
theorem bI220 : bI Tryz.prog 220 = some ([(0, 0)], []) := by kernel_rfl
theorem tk221 : tk Tryz.prog 221 = .int .u8 := by kernel_rfl
theorem tI221 : tI Tryz.prog 221 = some (1, false) := by kernel_rfl
theorem un221 : (∃ d, Tryz.prog.underlying 221 = some d) = True := eq_true ⟨_, tk_int tk221⟩
theorem zI221 : zI Tryz.prog 221 = some (.int .u8 0) := by kernel_rfl
theorem tk222 : tk Tryz.prog 222 = .int .u8 := by kernel_rfl
theorem tI222 : tI Tryz.prog 222 = some (1, false) := by kernel_rfl
theorem un222 : (∃ d, Tryz.prog.underlying 222 = some d) = True := eq_true ⟨_, tk_int tk222⟩
theorem zI222 : zI Tryz.prog 222 = some (.int .u8 0) := by kernel_rfl
theorem tk224 : tk Tryz.prog 224 = .int .i32 := by kernel_rfl
theorem tI224 : tI Tryz.prog 224 = some (1, false) := by kernel_rfl
theorem un224 : (∃ d, Tryz.prog.underlying 224 = some d) = True := eq_true ⟨_, tk_int tk224⟩
theorem zI224 : zI Tryz.prog 224 = some (.int .i32 0) := by kernel_rfl
theorem tk225 : tk Tryz.prog 225 = .int .i32 := by kernel_rfl
theorem tI225 : tI Tryz.prog 225 = some (1, false) := by kernel_rfl
theorem un225 : (∃ d, Tryz.prog.underlying 225 = some d) = True := eq_true ⟨_, tk_int tk225⟩
theorem zI225 : zI Tryz.prog 225 = some (.int .i32 0) := by kernel_rfl
theorem tk226 : tk Tryz.prog 226 = .agg := by kernel_rfl
theorem tI226 : tI Tryz.prog 226 = some (11, true) := by kernel_rfl
theorem zI226 : zI Tryz.prog 226 = some (.agg [.int .u64 0, .int .u64 0, .int .u32 0, .int .u8 0, .int .u8 0, .int .u8 0, .int .u8 0, .nilf, .nilp, .int .i32 0, .int .i32 0]) := by kernel_rfl
theorem fI226_0 : fI Tryz.prog 226 0 = some (0, 1, false) := by kernel_rfl
theorem fI226_1 : fI Tryz.prog 226 1 = some (1, 1, false) := by kernel_rfl
theorem fI226_2 : fI Tryz.prog 226 2 = some (2, 1, false) := by kernel_rfl
theorem fI226_3 : fI Tryz.prog 226 3 = some (3, 1, false) := by kernel_rfl
theorem fI226_4 : fI Tryz.prog 226 4 = some (4, 1, false) := by kernel_rfl
theorem fI226_5 : fI Tryz.prog 226 5 = some (5, 1, false) := by kernel_rfl
theorem fI226_6 : fI Tryz.prog 226 6 = some (6, 1, false) := by kernel_rfl
theorem fI226_7 : fI Tryz.prog 226 7 = some (7, 1, false) := by kernel_rfl
theorem fI226_8 : fI Tryz.prog 226 8 = some (8, 1, false) := by kernel_rfl
theorem fI226_9 : fI Tryz.prog 226 9 = some (9, 1, false) := by kernel_rfl
theorem fI226_10 : fI Tryz.prog 226 10 = some (10, 1, false) := by kernel_rfl
theorem bI226 : bI Tryz.prog 226 = some ([(0, 1), (1, 1), (2, 1), (3, 1), (4, 1), (5, 1), (6, 1), (7, 1), (8, 1), (9, 1), (10, 1)], [.int .u64 0, .int .u64 0, .int .u32 0, .int .u8 0, .int .u8 0, .int .u8 0, .int .u8 0, .nilf, .nilp, .int .i32 0, .int .i32 0]) := by kernel_rfl
theorem tk227 : tk Tryz.prog 227 = .agg := by kernel_rfl
theorem tI227 : tI Tryz.prog 227 = some (11, true) := by kernel_rfl
theorem zI227 : zI Tryz.prog 227 = some (.agg [.int .u64 0, .int .u64 0, .int .u32 0, .int .u8 0, .int .u8 0, .int .u8 0, .int .u8 0, .nilf, .nilp, .int .i32 0, .int .i32 0]) := by kernel_rfl
theorem fI227_0 : fI Tryz.prog 227 0 = some (0, 1, false) := by kernel_rfl
theorem fI227_1 : fI Tryz.prog 227 1 = some (1, 1, false) := by kernel_rfl
theorem fI227_2 : fI Tryz.prog 227 2 = some (2, 1, false) := by kernel_rfl
theorem fI227_3 : fI Tryz.prog 227 3 = some (3, 1, false) := by kernel_rfl
theorem fI227_4 : fI Tryz.prog 227 4 = some (4, 1, false) := by kernel_rfl
theorem fI227_5 : fI Tryz.prog 227 5 = some (5, 1, false) := by kernel_rfl
theorem fI227_6 : fI Tryz.prog 227 6 = some (6, 1, false) := by kernel_rfl
theorem fI227_7 : fI Tryz.prog 227 7 = some (7, 1, false) := by kernel_rfl
theorem fI227_8 : fI Tryz.prog 227 8 = some (8, 1, false) := by kernel_rfl
theorem fI227_9 : fI Tryz.prog 227 9 = some (9, 1, false) := by kernel_rfl
theorem fI227_10 : fI Tryz.prog 227 10 = some (10, 1, false) := by kernel_rfl
theorem bI227 : bI Tryz.prog 227 = some ([(0, 1), (1, 1), (2, 1), (3, 1), (4, 1), (5, 1), (6, 1), (7, 1), (8, 1), (9, 1), (10, 1)], [.int .u64 0, .int .u64 0, .int .u32 0, .int .u8 0, .int .u8 0, .int .u8 0, .int .u8 0, .nilf, .nilp, .int .i32 0, .int .i32 0]) := by kernel_rfl
theorem en3 : entersB Tryz.prog 3 = true := by kernel_rfl
theorem en4 : entersB Tryz.prog 4 = true := by kernel_rfl
theorem en5 : entersB Tryz.prog 5 = true := by kernel_rfl
theorem en6 : entersB Tryz.prog 6 = true := by kernel_rfl
theorem en7 : entersB Tryz.prog 7 = true := by kernel_rfl
theorem en8 : entersB Tryz.prog 8 = true := by kernel_rfl
theorem en9 : entersB Tryz.prog 9 = true := by kernel_rfl
theorem en10 : entersB Tryz.prog 10 = true := by kernel_rfl
theorem en11 : entersB Tryz.prog 11 = true := by kernel_rfl
theorem en12 : entersB Tryz.prog 12 = true := by kernel_rfl
theorem en13 : entersB Tryz.prog 13 = true := by kernel_rfl
theorem en14 : entersB Tryz.prog 14 = true := by kernel_rfl
theorem en15 : entersB Tryz.prog 15 = true := by kernel_rfl
theorem en16 : entersB Tryz.prog 16 = true := by kernel_rfl
theorem en17 : entersB Tryz.prog 17 = true := by kernel_rfl
theorem en18 : entersB Tryz.prog 18 = true := by kernel_rfl
theorem en19 : entersB Tryz.prog 19 = true := by kernel_rfl
theorem en20 : entersB Tryz.prog 20 = true := by kernel_rfl
theorem en21 : entersB Tryz.prog 21 = true := by kernel_rfl
theorem en22 : entersB Tryz.prog 22 = true := by kernel_rfl
theorem en23 : entersB Tryz.prog 23 = true := by kernel_rfl
theorem en24 : entersB Tryz.prog 24 = true := by kernel_rfl
theorem en25 : entersB Tryz.prog 25 = true := by kernel_rfl
theorem en26 : entersB Tryz.prog 26 = true := by kernel_rfl
theorem en27 : entersB Tryz.prog 27 = true := by kernel_rfl
theorem en28 : entersB Tryz.prog 28 = true := by kernel_rfl
theorem en29 : entersB Tryz.prog 29 = true := by kernel_rfl
theorem en30 : entersB Tryz.prog 30 = true := by kernel_rfl
theorem en31 : entersB Tryz.prog 31 = true := by kernel_rfl
theorem en32 : entersB Tryz.prog 32 = true := by kernel_rfl
theorem en33 : entersB Tryz.prog 33 = true := by kernel_rfl
theorem en34 : entersB Tryz.prog 34 = true := by kernel_rfl
theorem en35 : entersB Tryz.prog 35 = true := by kernel_rfl
theorem en36 : entersB Tryz.prog 36 = true := by kernel_rfl
theorem en37 : entersB Tryz.prog 37 = true := by kernel_rfl
theorem en38 : entersB Tryz.prog 38 = true := by kernel_rfl
theorem en39 : entersB Tryz.prog 39 = true := by kernel_rfl
theorem en40 : entersB Tryz.prog 40 = true := by kernel_rfl
theorem en41 : entersB Tryz.prog 41 = true := by kernel_rfl
theorem en42 : entersB Tryz.prog 42 = true := by kernel_rfl
theorem en43 : entersB Tryz.prog 43 = true := by kernel_rfl
theorem en44 : entersB Tryz.prog 44 = true := by kernel_rfl
theorem en45 : entersB Tryz.prog 45 = true := by kernel_rfl
theorem en46 : entersB Tryz.prog 46 = true := by kernel_rfl
theorem en47 : entersB Tryz.prog 47 = true := by kernel_rfl
theorem en48 : entersB Tryz.prog 48 = true := by kernel_rfl
theorem en49 : entersB Tryz.prog 49 = true := by kernel_rfl
theorem en50 : entersB Tryz.prog 50 = true := by kernel_rfl
theorem en51 : entersB Tryz.prog 51 = true := by kernel_rfl
theorem en52 : entersB Tryz.prog 52 = true := by kernel_rfl
theorem en53 : entersB Tryz.prog 53 = true := by kernel_rfl
theorem en54 : entersB Tryz.prog 54 = true := by kernel_rfl
theorem en55 : entersB Tryz.prog 55 = true := by kernel_rfl
theorem en56 : entersB Tryz.prog 56 = true := by kernel_rfl
theorem en57 : entersB Tryz.prog 57 = true := by kernel_rfl
theorem en58 : entersB Tryz.prog 58 = true := by kernel_rfl
theorem en59 : entersB Tryz.prog 59 = true := by kernel_rfl
theorem en60 : entersB Tryz.prog 60 = true := by kernel_rfl
theorem en61 : entersB Tryz.prog 61 = true := by kernel_rfl
theorem en62 : entersB Tryz.prog 62 = true := by kernel_rfl
theorem en63 : entersB Tryz.prog 63 = true := by kernel_rfl
theorem en64 : entersB Tryz.prog 64 = true := by kernel_rfl
theorem en65 : entersB Tryz.prog 65 = true := by kernel_rfl
theorem en66 : entersB Tryz.prog 66 = true := by kernel_rfl
theorem en67 : entersB Tryz.prog 67 = true := by kernel_rfl
theorem en68 : entersB Tryz.prog 68 = true := by kernel_rfl
theorem en69 : entersB Tryz.prog 69 = true := by kernel_rfl
theorem en70 : entersB Tryz.prog 70 = true := by kernel_rfl
theorem en71 : entersB Tryz.prog 71 = true := by kernel_rfl
theorem en72 : entersB Tryz.prog 72 = true := by kernel_rfl
theorem en73 : entersB Tryz.prog 73 = true := by kernel_rfl
theorem en74 : entersB Tryz.prog 74 = true := by kernel_rfl
theorem en75 : entersB Tryz.prog 75 = true := by kernel_rfl
theorem en76 : entersB Tryz.prog 76 = true := by kernel_rfl
theorem en77 : entersB Tryz.prog 77 = true := by kernel_rfl
theorem en78 : entersB Tryz.prog 78 = true := by kernel_rfl
theorem en79 : entersB Tryz.prog 79 = true := by kernel_rfl
theorem en80 : entersB Tryz.prog 80 = true := by kernel_rfl
theorem en81 : entersB Tryz.prog 81 = true := by kernel_rfl
theorem en82 : entersB Tryz.prog 82 = true := by kernel_rfl
theorem en83 : entersB Tryz.prog 83 = true := by kernel_rfl
theorem en84 : entersB Tryz.prog 84 = true := by kernel_rfl
theorem en85 : entersB Tryz.prog 85 = true := by kernel_rfl
theorem en87 : entersB Tryz.prog 87 = true := by kernel_rfl
theorem en88 : entersB Tryz.prog 88 = true := by kernel_rfl
theorem en89 : entersB Tryz.prog 89 = true := by kernel_rfl
theorem en90 : entersB Tryz.prog 90 = true := by kernel_rfl
theorem en91 : entersB Tryz.prog 91 = true := by kernel_rfl
theorem en92 : entersB Tryz.prog 92 = true := by kernel_rfl
theorem en93 : entersB Tryz.prog 93 = true := by kernel_rfl
theorem en94 : entersB Tryz.prog 94 = true := by kernel_rfl
theorem en95 : entersB Tryz.prog 95 = true := by kernel_rfl
theorem en96 : entersB Tryz.prog 96 = true := by kernel_rfl
theorem en97 : entersB Tryz.prog 97 = true := by kernel_rfl
theorem en98 : entersB Tryz.prog 98 = true := by kernel_rfl
theorem en99 : entersB Tryz.prog 99 = true := by kernel_rfl
theorem en100 : entersB Tryz.prog 100 = true := by kernel_rfl
theorem en101 : entersB Tryz.prog 101 = true := by kernel_rfl
theorem en102 : entersB Tryz.prog 102 = true := by kernel_rfl
theorem en103 : entersB Tryz.prog 103 = true := by kernel_rfl
theorem en104 : entersB Tryz.prog 104 = true := by kernel_rfl
theorem en105 : entersB Tryz.prog 105 = true := by kernel_rfl
theorem en106 : entersB Tryz.prog 106 = true := by kernel_rfl
theorem en107 : entersB Tryz.prog 107 = true := by kernel_rfl
theorem en108 : entersB Tryz.prog 108 = true := by kernel_rfl
theorem en109 : entersB Tryz.prog 109 = true := by kernel_rfl
theorem en110 : entersB Tryz.prog 110 = true := by kernel_rfl
theorem en111 : entersB Tryz.prog 111 = true := by kernel_rfl
theorem en112 : entersB Tryz.prog 112 = true := by kernel_rfl
theorem en113 : entersB Tryz.prog 113 = true := by kernel_rfl
theorem en114 : entersB Tryz.prog 114 = true := by kernel_rfl
theorem en115 : entersB Tryz.prog 115 = true := by kernel_rfl
theorem en116 : entersB Tryz.prog 116 = true := by kernel_rfl
theorem en117 : entersB Tryz.prog 117 = true := by kernel_rfl
theorem en118 : entersB Tryz.prog 118 = true := by kernel_rfl
theorem en119 : entersB Tryz.prog 119 = true := by kernel_rfl
theorem en120 : entersB Tryz.prog 120 = true := by kernel_rfl
theorem en121 : entersB Tryz.prog 121 = true := by kernel_rfl
theorem en122 : entersB Tryz.prog 122 = true := by kernel_rfl
theorem en123 : entersB Tryz.prog 123 = true := by kernel_rfl
theorem en124 : entersB Tryz.prog 124 = true := by kernel_rfl
theorem en125 : entersB Tryz.prog 125 = true := by kernel_rfl
theorem en126 : entersB Tryz.prog 126 = true := by kernel_rfl
theorem en127 : entersB Tryz.prog 127 = true := by kernel_rfl
theorem en128 : entersB Tryz.prog 128 = true := by kernel_rfl
theorem en129 : entersB Tryz.prog 129 = true := by kernel_rfl
theorem en130 : entersB Tryz.prog 130 = true := by kernel_rfl
theorem en131 : entersB Tryz.prog 131 = true := by kernel_rfl
theorem en132 : entersB Tryz.prog 132 = true := by kernel_rfl
theorem en133 : entersB Tryz.prog 133 = true := by kernel_rfl
theorem en134 : entersB Tryz.prog 134 = true := by kernel_rfl
theorem en135 : entersB Tryz.prog 135 = true := by kernel_rfl
theorem en136 : entersB Tryz.prog 136 = true := by kernel_rfl
theorem en137 : entersB Tryz.prog 137 = true := by kernel_rfl
theorem en138 : entersB Tryz.prog 138 = true := by kernel_rfl
theorem en139 : entersB Tryz.prog 139 = true := by kernel_rfl
theorem en140 : entersB Tryz.prog 140 = true := by kernel_rfl
theorem en141 : entersB Tryz.prog 141 = true := by kernel_rfl
theorem en142 : entersB Tryz.prog 142 = true := by kernel_rfl
theorem en143 : entersB Tryz.prog 143 = true := by kernel_rfl
theorem en144 : entersB Tryz.prog 144 = true := by kernel_rfl
theorem en145 : entersB Tryz.prog 145 = true := by kernel_rfl
theorem en146 : entersB Tryz.prog 146 = true := by kernel_rfl
theorem en147 : entersB Tryz.prog 147 = true := by kernel_rfl
theorem en148 : entersB Tryz.prog 148 = true := by kernel_rfl
theorem en149 : entersB Tryz.prog 149 = true := by kernel_rfl
theorem en150 : entersB Tryz.prog 150 = true := by kernel_rfl
theorem en151 : entersB Tryz.prog 151 = true := by kernel_rfl
theorem en152 : entersB Tryz.prog 152 = true := by kernel_rfl
theorem en153 : entersB Tryz.prog 153 = true := by kernel_rfl
theorem en154 : entersB Tryz.prog 154 = true := by kernel_rfl
theorem en155 : entersB Tryz.prog 155 = true := by kernel_rfl
theorem en156 : entersB Tryz.prog 156 = true := by kernel_rfl
theorem en157 : entersB Tryz.prog 157 = true := by kernel_rfl
theorem en158 : entersB Tryz.prog 158 = true := by kernel_rfl
theorem en159 : entersB Tryz.prog 159 = true := by kernel_rfl
theorem en162 : entersB Tryz.prog 162 = true := by kernel_rfl
theorem en163 : entersB Tryz.prog 163 = true := by kernel_rfl
theorem en164 : entersB Tryz.prog 164 = true := by kernel_rfl
theorem en165 : entersB Tryz.prog 165 = true := by kernel_rfl
theorem en166 : entersB Tryz.prog 166 = true := by kernel_rfl
theorem en167 : entersB Tryz.prog 167 = true := by kernel_rfl
theorem en168 : entersB Tryz.prog 168 = true := by kernel_rfl
theorem en170 : entersB Tryz.prog 170 = true := by kernel_rfl
theorem en171 : entersB Tryz.prog 171 = true := by kernel_rfl
theorem en172 : entersB Tryz.prog 172 = true := by kernel_rfl
theorem en173 : entersB Tryz.prog 173 = true := by kernel_rfl
theorem en174 : entersB Tryz.prog 174 = true := by kernel_rfl
theorem en175 : entersB Tryz.prog 175 = true := by kernel_rfl
theorem en176 : entersB Tryz.prog 176 = true := by kernel_rfl
theorem en177 : entersB Tryz.prog 177 = true := by kernel_rfl
theorem en178 : entersB Tryz.prog 178 = true := by kernel_rfl
theorem en179 : entersB Tryz.prog 179 = true := by kernel_rfl
theorem en180 : entersB Tryz.prog 180 = true := by kernel_rfl
theorem en181 : entersB Tryz.prog 181 = true := by kernel_rfl
theorem en211 : entersB Tryz.prog 211 = true := by kernel_rfl
attribute [go_sem] tk2 tI2 un2 zI2 tk3 tI3 un3 zI3 tk4 tI4 zI4 tk5 tI5 un5 zI5 tk6 tI6 un6 zI6 tk7 tI7 zI7 fI7_0 fI7_1 fI7_2 fI7_3 bI7 tk8 tI8 zI8 fI8_0 fI8_1 fI8_2 fI8_3 bI8 tk9 tI9 un9 zI9 tk10 tI10 un10 zI10 tk11 tI11 un11 zI11 tk12 tI12 un12 zI12 tk13 tI13 zI13 fI13_0 fI13_1 bI13 tk14 tI14 zI14 fI14_0 fI14_1 bI14 tk15 tI15 zI15 tk16 tI16 zI16 tk17 tI17 zI17 tk18 tI18 zI18 fI18_0 bI18 tk19 tI19 zI19 fI19_0 bI19 tk20 tI20 zI20 tk21 tI21 un21 zI21 tk22 tI22 un22 zI22 eI22 tk23 tI23 zI23 fI23_0 fI23_1 bI23 tk24 tI24 zI24 fI24_0 fI24_1 bI24 tk25 tI25 un25 zI25 eI25 tk26 tI26 zI26 fI26_0 fI26_1 bI26 tk27 tI27 zI27 fI27_0 fI27_1 bI27 tk28 tI28 zI28 fI28_0 fI28_1 fI28_2 bI28 tk29 tI29 zI29 fI29_0 fI29_1 fI29_2 bI29 tk31 tI31 un31 zI31 eI31 tk34 tI34 un34 zI34 tk39 tI39 zI39 tk43 tI43 un43 zI43 eI43 tk45 tI45 un45 zI45 eI45 tk46 tI46 zI46 fI46_0 fI46_1 fI46_2 fI46_3 bI46 tk47 tI47 zI47 fI47_0 fI47_1 fI47_2 fI47_3 bI47 tk53 tI53 zI53 tk57 tI57 zI57 fI57_0 fI57_1 fI57_2 bI57 tk58 tI58 zI58 fI58_0 fI58_1 fI58_2 bI58 tk63 tI63 zI63 fI63_0 fI63_1 fI63_2 bI63 tk64 tI64 zI64 fI64_0 fI64_1 fI64_2 bI64 flatI64 flatK64 tk71 tI71 zI71 tk72 tI72 zI72 fI72_0 fI72_1 fI72_2 fI72_3 bI72 tk73 tI73 zI73 fI73_0 fI73_1 fI73_2 fI73_3 bI73 tk121 tI121 un121 zI121 eI121 tk125 tI125 un125 zI125 tk127 tI127 zI127 tk128 tI128 un128 zI128 eI128 tk129 tI129 zI129 fI129_0 fI129_1 bI129 tk130 tI130 zI130 fI130_0 fI130_1 bI130 tk132 tI132 zI132 tk133 tI133 zI133 tk145 tI145 un145 zI145 tk152 tI152 un152 zI152 tk154 tI154 un154 zI154 tk158 tI158 zI158 tk164 tI164 aI164 tk165 tI165 aI165 tk170 tI170 un170 zI170 tk174 tI174 zI174 tk176 tI176 aI176 tk178 tI178 zI178 aI178 tk188 tI188 zI188 tk189 tI189 zI189 tk192 tI192 un192 zI192 eI192 tk193 tI193 zI193 fI193_0 fI193_1 bI193 tk194 tI194 zI194 fI194_0 fI194_1 bI194 tk196 tI196 zI196 tk198 tI198 zI198 aI198 tk199 tI199 aI199 tk201 tI201 un201 zI201 eI201 tk202 tI202 un202 zI202 eI202 tk203 tI203 zI203 fI203_0 fI203_1 fI203_2 bI203 tk204 tI204 zI204 fI204_0 fI204_1 fI204_2 bI204 tk205 tI205 un205 zI205 tk206 tI206 zI206 fI206_0 fI206_1 fI206_2 bI206 tk207 tI207 zI207 fI207_0 fI207_1 fI207_2 bI207 tk209 tI209 zI209 fI209_0 fI209_1 fI209_2 bI209 tk210 tI210 zI210 fI210_0 fI210_1 fI210_2 bI210 tk212 tI212 zI212 tk213 tI213 zI213 tk214 tI214 zI214 aI214 tk215 tI215 aI215 tk216 tI216 zI216 fI216_0 fI216_1 fI216_2 fI216_3 bI216 tk217 tI217 zI217 fI217_0 fI217_1 fI217_2 fI217_3 bI217 tk218 tI218 zI218 aI218 tk219 tI219 zI219 bI219 tk220 tI220 zI220 bI220 tk221 tI221 un221 zI221 tk222 tI222 un222 zI222 tk224 tI224 un224 zI224 tk225 tI225 un225 zI225 tk226 tI226 zI226 fI226_0 fI226_1 fI226_2 fI226_3 fI226_4 fI226_5 fI226_6 fI226_7 fI226_8 fI226_9 fI226_10 bI226 tk227 tI227 zI227 fI227_0 fI227_1 fI227_2 fI227_3 fI227_4 fI227_5 fI227_6 fI227_7 fI227_8 fI227_9 fI227_10 bI227 en3 en4 en5 en6 en7 en8 en9 en10 en11 en12 en13 en14 en15 en16 en17 en18 en19 en20 en21 en22 en23 en24 en25 en26 en27 en28 en29 en30 en31 en32 en33 en34 en35 en36 en37 en38 en39 en40 en41 en42 en43 en44 en45 en46 en47 en48 en49 en50 en51 en52 en53 en54 en55 en56 en57 en58 en59 en60 en61 en62 en63 en64 en65 en66 en67 en68 en69 en70 en71 en72 en73 en74 en75 en76 en77 en78 en79 en80 en81 en82 en83 en84 en85 en87 en88 en89 en90 en91 en92 en93 en94 en95 en96 en97 en98 en99 en100 en101 en102 en103 en104 en105 en106 en107 en108 en109 en110 en111 en112 en113 en114 en115 en116 en117 en118 en119 en120 en121 en122 en123 en124 en125 en126 en127 en128 en129 en130 en131 en132 en133 en134 en135 en136 en137 en138 en139 en140 en141 en142 en143 en144 en145 en146 en147 en148 en149 en150 en151 en152 en153 en154 en155 en156 en157 en158 en159 en162 en163 en164 en165 en166 en167 en168 en170 en171 en172 en173 en174 en175 en176 en177 en178 en179 en180 en181 en211
end Go.Proofs.YtplehleekabbaaaGreatDoorT
