/- YtohppebjmfnmdaaGreatDoorVTy: a text of the proof of this claim, by its prover. -/
import Derived.Test.YtohppebjmfnmdaaGreatDoorVS
import Derived.Test.YtohppebjmfnmdaaGreatDoorProg
import Derived.KernelRfl
namespace Go.Proofs.YtohppebjmfnmdaaGreatDoorT
open Go.Proofs.Vale Go.Proofs
theorem tk2 : tk Tryz.prog 2 = .int .i64 := by kernel_rfl
theorem tI2 : tI Tryz.prog 2 = some (1, false) := by kernel_rfl
theorem un2 : (∃ d, Tryz.prog.underlying 2 = some d) = True := eq_true ⟨_, tk_int tk2⟩
theorem zI2 : zI Tryz.prog 2 = some (.int .i64 0) := by kernel_rfl
theorem tk3 : tk Tryz.prog 3 = .int .i64 := by kernel_rfl
theorem tI3 : tI Tryz.prog 3 = some (1, false) := by kernel_rfl
theorem un3 : (∃ d, Tryz.prog.underlying 3 = some d) = True := eq_true ⟨_, tk_int tk3⟩
theorem zI3 : zI Tryz.prog 3 = some (.int .i64 0) := by kernel_rfl
theorem tk4 : tk Tryz.prog 4 = .bool := by kernel_rfl
theorem tI4 : tI Tryz.prog 4 = some (1, false) := by kernel_rfl
theorem zI4 : zI Tryz.prog 4 = some (.bool false) := by kernel_rfl
theorem tk5 : tk Tryz.prog 5 = .int .u8 := by kernel_rfl
theorem tI5 : tI Tryz.prog 5 = some (1, false) := by kernel_rfl
theorem un5 : (∃ d, Tryz.prog.underlying 5 = some d) = True := eq_true ⟨_, tk_int tk5⟩
theorem zI5 : zI Tryz.prog 5 = some (.int .u8 0) := by kernel_rfl
theorem tk6 : tk Tryz.prog 6 = .int .u8 := by kernel_rfl
theorem tI6 : tI Tryz.prog 6 = some (1, false) := by kernel_rfl
theorem un6 : (∃ d, Tryz.prog.underlying 6 = some d) = True := eq_true ⟨_, tk_int tk6⟩
theorem zI6 : zI Tryz.prog 6 = some (.int .u8 0) := by kernel_rfl
theorem tk7 : tk Tryz.prog 7 = .agg := by kernel_rfl
theorem tI7 : tI Tryz.prog 7 = some (4, true) := by kernel_rfl
theorem zI7 : zI Tryz.prog 7 = some (.agg [.int .i64 0, .int .i64 0, .bool false, .int .u8 0]) := by kernel_rfl
theorem fI7_0 : fI Tryz.prog 7 0 = some (0, 1, false) := by kernel_rfl
theorem fI7_1 : fI Tryz.prog 7 1 = some (1, 1, false) := by kernel_rfl
theorem fI7_2 : fI Tryz.prog 7 2 = some (2, 1, false) := by kernel_rfl
theorem fI7_3 : fI Tryz.prog 7 3 = some (3, 1, false) := by kernel_rfl
theorem bI7 : bI Tryz.prog 7 = some ([(0, 1), (1, 1), (2, 1), (3, 1)], [.int .i64 0, .int .i64 0, .bool false, .int .u8 0]) := by kernel_rfl
theorem tk8 : tk Tryz.prog 8 = .agg := by kernel_rfl
theorem tI8 : tI Tryz.prog 8 = some (4, true) := by kernel_rfl
theorem zI8 : zI Tryz.prog 8 = some (.agg [.int .i64 0, .int .i64 0, .bool false, .int .u8 0]) := by kernel_rfl
theorem fI8_0 : fI Tryz.prog 8 0 = some (0, 1, false) := by kernel_rfl
theorem fI8_1 : fI Tryz.prog 8 1 = some (1, 1, false) := by kernel_rfl
theorem fI8_2 : fI Tryz.prog 8 2 = some (2, 1, false) := by kernel_rfl
theorem fI8_3 : fI Tryz.prog 8 3 = some (3, 1, false) := by kernel_rfl
theorem bI8 : bI Tryz.prog 8 = some ([(0, 1), (1, 1), (2, 1), (3, 1)], [.int .i64 0, .int .i64 0, .bool false, .int .u8 0]) := by kernel_rfl
theorem tk9 : tk Tryz.prog 9 = .str := by kernel_rfl
theorem tI9 : tI Tryz.prog 9 = some (1, false) := by kernel_rfl
theorem un9 : (∃ d, Tryz.prog.underlying 9 = some d) = True := eq_true ⟨_, tk_str tk9⟩
theorem zI9 : zI Tryz.prog 9 = some (.str []) := by kernel_rfl
theorem tk10 : tk Tryz.prog 10 = .str := by kernel_rfl
theorem tI10 : tI Tryz.prog 10 = some (1, false) := by kernel_rfl
theorem un10 : (∃ d, Tryz.prog.underlying 10 = some d) = True := eq_true ⟨_, tk_str tk10⟩
theorem zI10 : zI Tryz.prog 10 = some (.str []) := by kernel_rfl
theorem tk11 : tk Tryz.prog 11 = .str := by kernel_rfl
theorem tI11 : tI Tryz.prog 11 = some (1, false) := by kernel_rfl
theorem un11 : (∃ d, Tryz.prog.underlying 11 = some d) = True := eq_true ⟨_, tk_str tk11⟩
theorem zI11 : zI Tryz.prog 11 = some (.str []) := by kernel_rfl
theorem tk12 : tk Tryz.prog 12 = .int .u64 := by kernel_rfl
theorem tI12 : tI Tryz.prog 12 = some (1, false) := by kernel_rfl
theorem un12 : (∃ d, Tryz.prog.underlying 12 = some d) = True := eq_true ⟨_, tk_int tk12⟩
theorem zI12 : zI Tryz.prog 12 = some (.int .u64 0) := by kernel_rfl
theorem tk13 : tk Tryz.prog 13 = .agg := by kernel_rfl
theorem tI13 : tI Tryz.prog 13 = some (2, true) := by kernel_rfl
theorem zI13 : zI Tryz.prog 13 = some (.agg [.str [], .int .u64 0]) := by kernel_rfl
theorem fI13_0 : fI Tryz.prog 13 0 = some (0, 1, false) := by kernel_rfl
theorem fI13_1 : fI Tryz.prog 13 1 = some (1, 1, false) := by kernel_rfl
theorem bI13 : bI Tryz.prog 13 = some ([(0, 1), (1, 1)], [.str [], .int .u64 0]) := by kernel_rfl
theorem tk14 : tk Tryz.prog 14 = .agg := by kernel_rfl
theorem tI14 : tI Tryz.prog 14 = some (2, true) := by kernel_rfl
theorem zI14 : zI Tryz.prog 14 = some (.agg [.str [], .int .u64 0]) := by kernel_rfl
theorem fI14_0 : fI Tryz.prog 14 0 = some (0, 1, false) := by kernel_rfl
theorem fI14_1 : fI Tryz.prog 14 1 = some (1, 1, false) := by kernel_rfl
theorem bI14 : bI Tryz.prog 14 = some ([(0, 1), (1, 1)], [.str [], .int .u64 0]) := by kernel_rfl
theorem tk15 : tk Tryz.prog 15 = .ptr := by kernel_rfl
theorem tI15 : tI Tryz.prog 15 = some (1, false) := by kernel_rfl
theorem zI15 : zI Tryz.prog 15 = some (.nilp) := by kernel_rfl
theorem tk16 : tk Tryz.prog 16 = .ptr := by kernel_rfl
theorem tI16 : tI Tryz.prog 16 = some (1, false) := by kernel_rfl
theorem zI16 : zI Tryz.prog 16 = some (.nilp) := by kernel_rfl
theorem tk17 : tk Tryz.prog 17 = .ptr := by kernel_rfl
theorem tI17 : tI Tryz.prog 17 = some (1, false) := by kernel_rfl
theorem zI17 : zI Tryz.prog 17 = some (.nilp) := by kernel_rfl
theorem tk18 : tk Tryz.prog 18 = .agg := by kernel_rfl
theorem tI18 : tI Tryz.prog 18 = some (1, true) := by kernel_rfl
theorem zI18 : zI Tryz.prog 18 = some (.agg [.nilp]) := by kernel_rfl
theorem fI18_0 : fI Tryz.prog 18 0 = some (0, 1, false) := by kernel_rfl
theorem bI18 : bI Tryz.prog 18 = some ([(0, 1)], [.nilp]) := by kernel_rfl
theorem tk19 : tk Tryz.prog 19 = .agg := by kernel_rfl
theorem tI19 : tI Tryz.prog 19 = some (1, true) := by kernel_rfl
theorem zI19 : zI Tryz.prog 19 = some (.agg [.nilp]) := by kernel_rfl
theorem fI19_0 : fI Tryz.prog 19 0 = some (0, 1, false) := by kernel_rfl
theorem bI19 : bI Tryz.prog 19 = some ([(0, 1)], [.nilp]) := by kernel_rfl
theorem tk20 : tk Tryz.prog 20 = .iface := by kernel_rfl
theorem tI20 : tI Tryz.prog 20 = some (1, false) := by kernel_rfl
theorem zI20 : zI Tryz.prog 20 = some (.nili) := by kernel_rfl
theorem tk21 : tk Tryz.prog 21 = .int .i32 := by kernel_rfl
theorem tI21 : tI Tryz.prog 21 = some (1, false) := by kernel_rfl
theorem un21 : (∃ d, Tryz.prog.underlying 21 = some d) = True := eq_true ⟨_, tk_int tk21⟩
theorem zI21 : zI Tryz.prog 21 = some (.int .i32 0) := by kernel_rfl
theorem tk22 : tk Tryz.prog 22 = .sl 9 := by kernel_rfl
theorem tI22 : tI Tryz.prog 22 = some (1, false) := by kernel_rfl
theorem un22 : (∃ d, Tryz.prog.underlying 22 = some d) = True := eq_true ⟨_, tk_sl tk22⟩
theorem zI22 : zI Tryz.prog 22 = some (.fz true []) := by kernel_rfl
theorem eI22 : eI Tryz.prog 22 = some (9, 1, 16) := by kernel_rfl
theorem tk23 : tk Tryz.prog 23 = .agg := by kernel_rfl
theorem tI23 : tI Tryz.prog 23 = some (2, true) := by kernel_rfl
theorem zI23 : zI Tryz.prog 23 = some (.agg [.fz true [], .fz true []]) := by kernel_rfl
theorem fI23_0 : fI Tryz.prog 23 0 = some (0, 1, false) := by kernel_rfl
theorem fI23_1 : fI Tryz.prog 23 1 = some (1, 1, false) := by kernel_rfl
theorem bI23 : bI Tryz.prog 23 = some ([(0, 1), (1, 1)], [.fz true [], .fz true []]) := by kernel_rfl
theorem tk24 : tk Tryz.prog 24 = .agg := by kernel_rfl
theorem tI24 : tI Tryz.prog 24 = some (2, true) := by kernel_rfl
theorem zI24 : zI Tryz.prog 24 = some (.agg [.fz true [], .fz true []]) := by kernel_rfl
theorem fI24_0 : fI Tryz.prog 24 0 = some (0, 1, false) := by kernel_rfl
theorem fI24_1 : fI Tryz.prog 24 1 = some (1, 1, false) := by kernel_rfl
theorem bI24 : bI Tryz.prog 24 = some ([(0, 1), (1, 1)], [.fz true [], .fz true []]) := by kernel_rfl
theorem tk25 : tk Tryz.prog 25 = .sl 41 := by kernel_rfl
theorem tI25 : tI Tryz.prog 25 = some (1, false) := by kernel_rfl
theorem un25 : (∃ d, Tryz.prog.underlying 25 = some d) = True := eq_true ⟨_, tk_sl tk25⟩
theorem zI25 : zI Tryz.prog 25 = some (.fz true []) := by kernel_rfl
theorem eI25 : eI Tryz.prog 25 = some (41, 3, 40) := by kernel_rfl
theorem tk26 : tk Tryz.prog 26 = .sl 44 := by kernel_rfl
theorem tI26 : tI Tryz.prog 26 = some (1, false) := by kernel_rfl
theorem un26 : (∃ d, Tryz.prog.underlying 26 = some d) = True := eq_true ⟨_, tk_sl tk26⟩
theorem zI26 : zI Tryz.prog 26 = some (.fz true []) := by kernel_rfl
theorem eI26 : eI Tryz.prog 26 = some (44, 3, 40) := by kernel_rfl
theorem tk27 : tk Tryz.prog 27 = .agg := by kernel_rfl
theorem tI27 : tI Tryz.prog 27 = some (3, true) := by kernel_rfl
theorem zI27 : zI Tryz.prog 27 = some (.agg [.fz true [], .fz true [], .int .i64 0]) := by kernel_rfl
theorem fI27_0 : fI Tryz.prog 27 0 = some (0, 1, false) := by kernel_rfl
theorem fI27_1 : fI Tryz.prog 27 1 = some (1, 1, false) := by kernel_rfl
theorem fI27_2 : fI Tryz.prog 27 2 = some (2, 1, false) := by kernel_rfl
theorem bI27 : bI Tryz.prog 27 = some ([(0, 1), (1, 1), (2, 1)], [.fz true [], .fz true [], .int .i64 0]) := by kernel_rfl
theorem tk28 : tk Tryz.prog 28 = .agg := by kernel_rfl
theorem tI28 : tI Tryz.prog 28 = some (3, true) := by kernel_rfl
theorem zI28 : zI Tryz.prog 28 = some (.agg [.fz true [], .fz true [], .int .i64 0]) := by kernel_rfl
theorem fI28_0 : fI Tryz.prog 28 0 = some (0, 1, false) := by kernel_rfl
theorem fI28_1 : fI Tryz.prog 28 1 = some (1, 1, false) := by kernel_rfl
theorem fI28_2 : fI Tryz.prog 28 2 = some (2, 1, false) := by kernel_rfl
theorem bI28 : bI Tryz.prog 28 = some ([(0, 1), (1, 1), (2, 1)], [.fz true [], .fz true [], .int .i64 0]) := by kernel_rfl
theorem tk29 : tk Tryz.prog 29 = .agg := by kernel_rfl
theorem tI29 : tI Tryz.prog 29 = some (2, true) := by kernel_rfl
theorem zI29 : zI Tryz.prog 29 = some (.agg [.int .i64 0, .int .i64 0]) := by kernel_rfl
theorem aI29 : aI Tryz.prog 29 = some (2, 1, false) := by kernel_rfl
theorem tk33 : tk Tryz.prog 33 = .int .i64 := by kernel_rfl
theorem tI33 : tI Tryz.prog 33 = some (1, false) := by kernel_rfl
theorem un33 : (∃ d, Tryz.prog.underlying 33 = some d) = True := eq_true ⟨_, tk_int tk33⟩
theorem zI33 : zI Tryz.prog 33 = some (.int .i64 0) := by kernel_rfl
theorem tk36 : tk Tryz.prog 36 = .sl 3 := by kernel_rfl
theorem tI36 : tI Tryz.prog 36 = some (1, false) := by kernel_rfl
theorem un36 : (∃ d, Tryz.prog.underlying 36 = some d) = True := eq_true ⟨_, tk_sl tk36⟩
theorem zI36 : zI Tryz.prog 36 = some (.fz true []) := by kernel_rfl
theorem eI36 : eI Tryz.prog 36 = some (3, 1, 8) := by kernel_rfl
theorem tk40 : tk Tryz.prog 40 = .agg := by kernel_rfl
theorem tI40 : tI Tryz.prog 40 = some (3, true) := by kernel_rfl
theorem zI40 : zI Tryz.prog 40 = some (.agg [.int .i64 0, .int .i64 0, .fz true []]) := by kernel_rfl
theorem fI40_0 : fI Tryz.prog 40 0 = some (0, 1, false) := by kernel_rfl
theorem fI40_1 : fI Tryz.prog 40 1 = some (1, 1, false) := by kernel_rfl
theorem fI40_2 : fI Tryz.prog 40 2 = some (2, 1, false) := by kernel_rfl
theorem bI40 : bI Tryz.prog 40 = some ([(0, 1), (1, 1), (2, 1)], [.int .i64 0, .int .i64 0, .fz true []]) := by kernel_rfl
theorem tk41 : tk Tryz.prog 41 = .agg := by kernel_rfl
theorem tI41 : tI Tryz.prog 41 = some (3, true) := by kernel_rfl
theorem zI41 : zI Tryz.prog 41 = some (.agg [.int .i64 0, .int .i64 0, .fz true []]) := by kernel_rfl
theorem fI41_0 : fI Tryz.prog 41 0 = some (0, 1, false) := by kernel_rfl
theorem fI41_1 : fI Tryz.prog 41 1 = some (1, 1, false) := by kernel_rfl
theorem fI41_2 : fI Tryz.prog 41 2 = some (2, 1, false) := by kernel_rfl
theorem bI41 : bI Tryz.prog 41 = some ([(0, 1), (1, 1), (2, 1)], [.int .i64 0, .int .i64 0, .fz true []]) := by kernel_rfl
theorem tk43 : tk Tryz.prog 43 = .agg := by kernel_rfl
theorem tI43 : tI Tryz.prog 43 = some (3, true) := by kernel_rfl
theorem zI43 : zI Tryz.prog 43 = some (.agg [.int .i64 0, .int .i64 0, .fz true []]) := by kernel_rfl
theorem fI43_0 : fI Tryz.prog 43 0 = some (0, 1, false) := by kernel_rfl
theorem fI43_1 : fI Tryz.prog 43 1 = some (1, 1, false) := by kernel_rfl
theorem fI43_2 : fI Tryz.prog 43 2 = some (2, 1, false) := by kernel_rfl
theorem bI43 : bI Tryz.prog 43 = some ([(0, 1), (1, 1), (2, 1)], [.int .i64 0, .int .i64 0, .fz true []]) := by kernel_rfl
theorem tk44 : tk Tryz.prog 44 = .agg := by kernel_rfl
theorem tI44 : tI Tryz.prog 44 = some (3, true) := by kernel_rfl
theorem zI44 : zI Tryz.prog 44 = some (.agg [.int .i64 0, .int .i64 0, .fz true []]) := by kernel_rfl
theorem fI44_0 : fI Tryz.prog 44 0 = some (0, 1, false) := by kernel_rfl
theorem fI44_1 : fI Tryz.prog 44 1 = some (1, 1, false) := by kernel_rfl
theorem fI44_2 : fI Tryz.prog 44 2 = some (2, 1, false) := by kernel_rfl
theorem bI44 : bI Tryz.prog 44 = some ([(0, 1), (1, 1), (2, 1)], [.int .i64 0, .int .i64 0, .fz true []]) := by kernel_rfl
theorem tk63 : tk Tryz.prog 63 = .ptr := by kernel_rfl
theorem tI63 : tI Tryz.prog 63 = some (1, false) := by kernel_rfl
theorem zI63 : zI Tryz.prog 63 = some (.nilp) := by kernel_rfl
theorem tk64 : tk Tryz.prog 64 = .agg := by kernel_rfl
theorem tI64 : tI Tryz.prog 64 = some (3, true) := by kernel_rfl
theorem zI64 : zI Tryz.prog 64 = some (.agg [.fz true [], .fz true [], .int .i64 0]) := by kernel_rfl
theorem fI64_0 : fI Tryz.prog 64 0 = some (0, 3, true) := by kernel_rfl
theorem bI64 : bI Tryz.prog 64 = some ([(0, 3)], [.fz true [], .fz true [], .int .i64 0]) := by kernel_rfl
theorem tk65 : tk Tryz.prog 65 = .agg := by kernel_rfl
theorem tI65 : tI Tryz.prog 65 = some (3, true) := by kernel_rfl
theorem zI65 : zI Tryz.prog 65 = some (.agg [.fz true [], .fz true [], .int .i64 0]) := by kernel_rfl
theorem fI65_0 : fI Tryz.prog 65 0 = some (0, 3, true) := by kernel_rfl
theorem bI65 : bI Tryz.prog 65 = some ([(0, 3)], [.fz true [], .fz true [], .int .i64 0]) := by kernel_rfl
theorem tk73 : tk Tryz.prog 73 = .iface := by kernel_rfl
theorem tI73 : tI Tryz.prog 73 = some (1, false) := by kernel_rfl
theorem zI73 : zI Tryz.prog 73 = some (.nili) := by kernel_rfl
theorem tk74 : tk Tryz.prog 74 = .iface := by kernel_rfl
theorem tI74 : tI Tryz.prog 74 = some (1, false) := by kernel_rfl
theorem zI74 : zI Tryz.prog 74 = some (.nili) := by kernel_rfl
theorem tk80 : tk Tryz.prog 80 = .map 9 78 := by kernel_rfl
theorem tI80 : tI Tryz.prog 80 = some (1, false) := by kernel_rfl
theorem zI80 : zI Tryz.prog 80 = some (.nilm) := by kernel_rfl
theorem tk94 : tk Tryz.prog 94 = .ptr := by kernel_rfl
theorem tI94 : tI Tryz.prog 94 = some (1, false) := by kernel_rfl
theorem zI94 : zI Tryz.prog 94 = some (.nilp) := by kernel_rfl
theorem tk95 : tk Tryz.prog 95 = .sl 5 := by kernel_rfl
theorem tI95 : tI Tryz.prog 95 = some (1, false) := by kernel_rfl
theorem un95 : (∃ d, Tryz.prog.underlying 95 = some d) = True := eq_true ⟨_, tk_sl tk95⟩
theorem zI95 : zI Tryz.prog 95 = some (.fz true []) := by kernel_rfl
theorem eI95 : eI Tryz.prog 95 = some (5, 1, 1) := by kernel_rfl
theorem tk96 : tk Tryz.prog 96 = .agg := by kernel_rfl
theorem tI96 : tI Tryz.prog 96 = some (2, true) := by kernel_rfl
theorem zI96 : zI Tryz.prog 96 = some (.agg [.nilp, .fz true []]) := by kernel_rfl
theorem fI96_0 : fI Tryz.prog 96 0 = some (0, 1, false) := by kernel_rfl
theorem fI96_1 : fI Tryz.prog 96 1 = some (1, 1, false) := by kernel_rfl
theorem bI96 : bI Tryz.prog 96 = some ([(0, 1), (1, 1)], [.nilp, .fz true []]) := by kernel_rfl
theorem tk97 : tk Tryz.prog 97 = .agg := by kernel_rfl
theorem tI97 : tI Tryz.prog 97 = some (2, true) := by kernel_rfl
theorem zI97 : zI Tryz.prog 97 = some (.agg [.nilp, .fz true []]) := by kernel_rfl
theorem fI97_0 : fI Tryz.prog 97 0 = some (0, 1, false) := by kernel_rfl
theorem fI97_1 : fI Tryz.prog 97 1 = some (1, 1, false) := by kernel_rfl
theorem bI97 : bI Tryz.prog 97 = some ([(0, 1), (1, 1)], [.nilp, .fz true []]) := by kernel_rfl
theorem tk104 : tk Tryz.prog 104 = .int .i64 := by kernel_rfl
theorem tI104 : tI Tryz.prog 104 = some (1, false) := by kernel_rfl
theorem un104 : (∃ d, Tryz.prog.underlying 104 = some d) = True := eq_true ⟨_, tk_int tk104⟩
theorem zI104 : zI Tryz.prog 104 = some (.int .i64 0) := by kernel_rfl
theorem tk107 : tk Tryz.prog 107 = .ptr := by kernel_rfl
theorem tI107 : tI Tryz.prog 107 = some (1, false) := by kernel_rfl
theorem zI107 : zI Tryz.prog 107 = some (.nilp) := by kernel_rfl
theorem tk112 : tk Tryz.prog 112 = .ptr := by kernel_rfl
theorem tI112 : tI Tryz.prog 112 = some (1, false) := by kernel_rfl
theorem zI112 : zI Tryz.prog 112 = some (.nilp) := by kernel_rfl
theorem tk114 : tk Tryz.prog 114 = .int .u64 := by kernel_rfl
theorem tI114 : tI Tryz.prog 114 = some (1, false) := by kernel_rfl
theorem un114 : (∃ d, Tryz.prog.underlying 114 = some d) = True := eq_true ⟨_, tk_int tk114⟩
theorem zI114 : zI Tryz.prog 114 = some (.int .u64 0) := by kernel_rfl
theorem tk115 : tk Tryz.prog 115 = .int .u64 := by kernel_rfl
theorem tI115 : tI Tryz.prog 115 = some (1, false) := by kernel_rfl
theorem un115 : (∃ d, Tryz.prog.underlying 115 = some d) = True := eq_true ⟨_, tk_int tk115⟩
theorem zI115 : zI Tryz.prog 115 = some (.int .u64 0) := by kernel_rfl
theorem tk119 : tk Tryz.prog 119 = .agg := by kernel_rfl
theorem tI119 : tI Tryz.prog 119 = some (3, true) := by kernel_rfl
theorem zI119 : zI Tryz.prog 119 = some (.agg [.str [], .str [], .nili]) := by kernel_rfl
theorem fI119_0 : fI Tryz.prog 119 0 = some (0, 1, false) := by kernel_rfl
theorem fI119_1 : fI Tryz.prog 119 1 = some (1, 1, false) := by kernel_rfl
theorem fI119_2 : fI Tryz.prog 119 2 = some (2, 1, false) := by kernel_rfl
theorem bI119 : bI Tryz.prog 119 = some ([(0, 1), (1, 1), (2, 1)], [.str [], .str [], .nili]) := by kernel_rfl
theorem tk120 : tk Tryz.prog 120 = .agg := by kernel_rfl
theorem tI120 : tI Tryz.prog 120 = some (3, true) := by kernel_rfl
theorem zI120 : zI Tryz.prog 120 = some (.agg [.str [], .str [], .nili]) := by kernel_rfl
theorem fI120_0 : fI Tryz.prog 120 0 = some (0, 1, false) := by kernel_rfl
theorem fI120_1 : fI Tryz.prog 120 1 = some (1, 1, false) := by kernel_rfl
theorem fI120_2 : fI Tryz.prog 120 2 = some (2, 1, false) := by kernel_rfl
theorem bI120 : bI Tryz.prog 120 = some ([(0, 1), (1, 1), (2, 1)], [.str [], .str [], .nili]) := by kernel_rfl
theorem tk122 : tk Tryz.prog 122 = .agg := by kernel_rfl
theorem tI122 : tI Tryz.prog 122 = some (24, true) := by kernel_rfl
theorem zI122 : zI Tryz.prog 122 = some (.agg [.int .u8 0, .int .u8 0, .int .u8 0, .int .u8 0, .int .u8 0, .int .u8 0, .int .u8 0, .int .u8 0, .int .u8 0, .int .u8 0, .int .u8 0, .int .u8 0, .int .u8 0, .int .u8 0, .int .u8 0, .int .u8 0, .int .u8 0, .int .u8 0, .int .u8 0, .int .u8 0, .int .u8 0, .int .u8 0, .int .u8 0, .int .u8 0]) := by kernel_rfl
theorem aI122 : aI Tryz.prog 122 = some (24, 1, false) := by kernel_rfl
theorem tk127 : tk Tryz.prog 127 = .agg := by kernel_rfl
theorem tI127 : tI Tryz.prog 127 = some (256, true) := by kernel_rfl
theorem aI127 : aI Tryz.prog 127 = some (256, 1, false) := by kernel_rfl
theorem tk133 : tk Tryz.prog 133 = .agg := by kernel_rfl
theorem tI133 : tI Tryz.prog 133 = some (2, true) := by kernel_rfl
theorem zI133 : zI Tryz.prog 133 = some (.agg [.int .u8 0, .int .u8 0]) := by kernel_rfl
theorem fI133_0 : fI Tryz.prog 133 0 = some (0, 1, false) := by kernel_rfl
theorem fI133_1 : fI Tryz.prog 133 1 = some (1, 1, false) := by kernel_rfl
theorem bI133 : bI Tryz.prog 133 = some ([(0, 1), (1, 1)], [.int .u8 0, .int .u8 0]) := by kernel_rfl
theorem tk134 : tk Tryz.prog 134 = .agg := by kernel_rfl
theorem tI134 : tI Tryz.prog 134 = some (2, true) := by kernel_rfl
theorem zI134 : zI Tryz.prog 134 = some (.agg [.int .u8 0, .int .u8 0]) := by kernel_rfl
theorem fI134_0 : fI Tryz.prog 134 0 = some (0, 1, false) := by kernel_rfl
theorem fI134_1 : fI Tryz.prog 134 1 = some (1, 1, false) := by kernel_rfl
theorem bI134 : bI Tryz.prog 134 = some ([(0, 1), (1, 1)], [.int .u8 0, .int .u8 0]) := by kernel_rfl
theorem tk135 : tk Tryz.prog 135 = .agg := by kernel_rfl
theorem tI135 : tI Tryz.prog 135 = some (32, true) := by kernel_rfl
theorem zI135 : zI Tryz.prog 135 = some (.agg [.int .u8 0, .int .u8 0, .int .u8 0, .int .u8 0, .int .u8 0, .int .u8 0, .int .u8 0, .int .u8 0, .int .u8 0, .int .u8 0, .int .u8 0, .int .u8 0, .int .u8 0, .int .u8 0, .int .u8 0, .int .u8 0, .int .u8 0, .int .u8 0, .int .u8 0, .int .u8 0, .int .u8 0, .int .u8 0, .int .u8 0, .int .u8 0, .int .u8 0, .int .u8 0, .int .u8 0, .int .u8 0, .int .u8 0, .int .u8 0, .int .u8 0, .int .u8 0]) := by kernel_rfl
theorem aI135 : aI Tryz.prog 135 = some (16, 2, true) := by kernel_rfl
theorem tk136 : tk Tryz.prog 136 = .int .u32 := by kernel_rfl
theorem tI136 : tI Tryz.prog 136 = some (1, false) := by kernel_rfl
theorem un136 : (∃ d, Tryz.prog.underlying 136 = some d) = True := eq_true ⟨_, tk_int tk136⟩
theorem zI136 : zI Tryz.prog 136 = some (.int .u32 0) := by kernel_rfl
theorem tk140 : tk Tryz.prog 140 = .ptr := by kernel_rfl
theorem tI140 : tI Tryz.prog 140 = some (1, false) := by kernel_rfl
theorem zI140 : zI Tryz.prog 140 = some (.nilp) := by kernel_rfl
theorem tk141 : tk Tryz.prog 141 = .agg := by kernel_rfl
theorem tI141 : tI Tryz.prog 141 = some (1, true) := by kernel_rfl
theorem zI141 : zI Tryz.prog 141 = some (.agg [.str []]) := by kernel_rfl
theorem fI141_0 : fI Tryz.prog 141 0 = some (0, 1, false) := by kernel_rfl
theorem bI141 : bI Tryz.prog 141 = some ([(0, 1)], [.str []]) := by kernel_rfl
theorem tk142 : tk Tryz.prog 142 = .agg := by kernel_rfl
theorem tI142 : tI Tryz.prog 142 = some (1, true) := by kernel_rfl
theorem zI142 : zI Tryz.prog 142 = some (.agg [.str []]) := by kernel_rfl
theorem fI142_0 : fI Tryz.prog 142 0 = some (0, 1, false) := by kernel_rfl
theorem bI142 : bI Tryz.prog 142 = some ([(0, 1)], [.str []]) := by kernel_rfl
theorem tk144 : tk Tryz.prog 144 = .agg := by kernel_rfl
theorem tI144 : tI Tryz.prog 144 = some (20, true) := by kernel_rfl
theorem zI144 : zI Tryz.prog 144 = some (.agg [.int .u64 0, .int .u64 0, .int .u64 0, .int .u64 0, .int .u64 0, .int .u64 0, .int .u64 0, .int .u64 0, .int .u64 0, .int .u64 0, .int .u64 0, .int .u64 0, .int .u64 0, .int .u64 0, .int .u64 0, .int .u64 0, .int .u64 0, .int .u64 0, .int .u64 0, .int .u64 0]) := by kernel_rfl
theorem aI144 : aI Tryz.prog 144 = some (20, 1, false) := by kernel_rfl
theorem tk145 : tk Tryz.prog 145 = .agg := by kernel_rfl
theorem tI145 : tI Tryz.prog 145 = some (65, true) := by kernel_rfl
theorem aI145 : aI Tryz.prog 145 = some (65, 1, false) := by kernel_rfl
theorem tk147 : tk Tryz.prog 147 = .sl 149 := by kernel_rfl
theorem tI147 : tI Tryz.prog 147 = some (1, false) := by kernel_rfl
theorem un147 : (∃ d, Tryz.prog.underlying 147 = some d) = True := eq_true ⟨_, tk_sl tk147⟩
theorem zI147 : zI Tryz.prog 147 = some (.fz true []) := by kernel_rfl
theorem eI147 : eI Tryz.prog 147 = some (149, 2, 16) := by kernel_rfl
theorem tk148 : tk Tryz.prog 148 = .agg := by kernel_rfl
theorem tI148 : tI Tryz.prog 148 = some (2, true) := by kernel_rfl
theorem zI148 : zI Tryz.prog 148 = some (.agg [.int .i64 0, .int .i64 0]) := by kernel_rfl
theorem fI148_0 : fI Tryz.prog 148 0 = some (0, 1, false) := by kernel_rfl
theorem fI148_1 : fI Tryz.prog 148 1 = some (1, 1, false) := by kernel_rfl
theorem bI148 : bI Tryz.prog 148 = some ([(0, 1), (1, 1)], [.int .i64 0, .int .i64 0]) := by kernel_rfl
theorem tk149 : tk Tryz.prog 149 = .agg := by kernel_rfl
theorem tI149 : tI Tryz.prog 149 = some (2, true) := by kernel_rfl
theorem zI149 : zI Tryz.prog 149 = some (.agg [.int .i64 0, .int .i64 0]) := by kernel_rfl
theorem fI149_0 : fI Tryz.prog 149 0 = some (0, 1, false) := by kernel_rfl
theorem fI149_1 : fI Tryz.prog 149 1 = some (1, 1, false) := by kernel_rfl
theorem bI149 : bI Tryz.prog 149 = some ([(0, 1), (1, 1)], [.int .i64 0, .int .i64 0]) := by kernel_rfl
theorem tk151 : tk Tryz.prog 151 = .ptr := by kernel_rfl
theorem tI151 : tI Tryz.prog 151 = some (1, false) := by kernel_rfl
theorem zI151 : zI Tryz.prog 151 = some (.nilp) := by kernel_rfl
theorem tk153 : tk Tryz.prog 153 = .sl 159 := by kernel_rfl
theorem tI153 : tI Tryz.prog 153 = some (1, false) := by kernel_rfl
theorem un153 : (∃ d, Tryz.prog.underlying 153 = some d) = True := eq_true ⟨_, tk_sl tk153⟩
theorem zI153 : zI Tryz.prog 153 = some (.fz true []) := by kernel_rfl
theorem eI153 : eI Tryz.prog 153 = some (159, 3, 6) := by kernel_rfl
theorem tk154 : tk Tryz.prog 154 = .sl 162 := by kernel_rfl
theorem tI154 : tI Tryz.prog 154 = some (1, false) := by kernel_rfl
theorem un154 : (∃ d, Tryz.prog.underlying 154 = some d) = True := eq_true ⟨_, tk_sl tk154⟩
theorem zI154 : zI Tryz.prog 154 = some (.fz true []) := by kernel_rfl
theorem eI154 : eI Tryz.prog 154 = some (162, 3, 12) := by kernel_rfl
theorem tk155 : tk Tryz.prog 155 = .agg := by kernel_rfl
theorem tI155 : tI Tryz.prog 155 = some (3, true) := by kernel_rfl
theorem zI155 : zI Tryz.prog 155 = some (.agg [.fz true [], .fz true [], .int .i64 0]) := by kernel_rfl
theorem fI155_0 : fI Tryz.prog 155 0 = some (0, 1, false) := by kernel_rfl
theorem fI155_1 : fI Tryz.prog 155 1 = some (1, 1, false) := by kernel_rfl
theorem fI155_2 : fI Tryz.prog 155 2 = some (2, 1, false) := by kernel_rfl
theorem bI155 : bI Tryz.prog 155 = some ([(0, 1), (1, 1), (2, 1)], [.fz true [], .fz true [], .int .i64 0]) := by kernel_rfl
theorem tk156 : tk Tryz.prog 156 = .agg := by kernel_rfl
theorem tI156 : tI Tryz.prog 156 = some (3, true) := by kernel_rfl
theorem zI156 : zI Tryz.prog 156 = some (.agg [.fz true [], .fz true [], .int .i64 0]) := by kernel_rfl
theorem fI156_0 : fI Tryz.prog 156 0 = some (0, 1, false) := by kernel_rfl
theorem fI156_1 : fI Tryz.prog 156 1 = some (1, 1, false) := by kernel_rfl
theorem fI156_2 : fI Tryz.prog 156 2 = some (2, 1, false) := by kernel_rfl
theorem bI156 : bI Tryz.prog 156 = some ([(0, 1), (1, 1), (2, 1)], [.fz true [], .fz true [], .int .i64 0]) := by kernel_rfl
theorem tk157 : tk Tryz.prog 157 = .int .u16 := by kernel_rfl
theorem tI157 : tI Tryz.prog 157 = some (1, false) := by kernel_rfl
theorem un157 : (∃ d, Tryz.prog.underlying 157 = some d) = True := eq_true ⟨_, tk_int tk157⟩
theorem zI157 : zI Tryz.prog 157 = some (.int .u16 0) := by kernel_rfl
theorem tk158 : tk Tryz.prog 158 = .agg := by kernel_rfl
theorem tI158 : tI Tryz.prog 158 = some (3, true) := by kernel_rfl
theorem zI158 : zI Tryz.prog 158 = some (.agg [.int .u16 0, .int .u16 0, .int .u16 0]) := by kernel_rfl
theorem fI158_0 : fI Tryz.prog 158 0 = some (0, 1, false) := by kernel_rfl
theorem fI158_1 : fI Tryz.prog 158 1 = some (1, 1, false) := by kernel_rfl
theorem fI158_2 : fI Tryz.prog 158 2 = some (2, 1, false) := by kernel_rfl
theorem bI158 : bI Tryz.prog 158 = some ([(0, 1), (1, 1), (2, 1)], [.int .u16 0, .int .u16 0, .int .u16 0]) := by kernel_rfl
theorem tk159 : tk Tryz.prog 159 = .agg := by kernel_rfl
theorem tI159 : tI Tryz.prog 159 = some (3, true) := by kernel_rfl
theorem zI159 : zI Tryz.prog 159 = some (.agg [.int .u16 0, .int .u16 0, .int .u16 0]) := by kernel_rfl
theorem fI159_0 : fI Tryz.prog 159 0 = some (0, 1, false) := by kernel_rfl
theorem fI159_1 : fI Tryz.prog 159 1 = some (1, 1, false) := by kernel_rfl
theorem fI159_2 : fI Tryz.prog 159 2 = some (2, 1, false) := by kernel_rfl
theorem bI159 : bI Tryz.prog 159 = some ([(0, 1), (1, 1), (2, 1)], [.int .u16 0, .int .u16 0, .int .u16 0]) := by kernel_rfl
theorem tk161 : tk Tryz.prog 161 = .agg := by kernel_rfl
theorem tI161 : tI Tryz.prog 161 = some (3, true) := by kernel_rfl
theorem zI161 : zI Tryz.prog 161 = some (.agg [.int .u32 0, .int .u32 0, .int .u32 0]) := by kernel_rfl
theorem fI161_0 : fI Tryz.prog 161 0 = some (0, 1, false) := by kernel_rfl
theorem fI161_1 : fI Tryz.prog 161 1 = some (1, 1, false) := by kernel_rfl
theorem fI161_2 : fI Tryz.prog 161 2 = some (2, 1, false) := by kernel_rfl
theorem bI161 : bI Tryz.prog 161 = some ([(0, 1), (1, 1), (2, 1)], [.int .u32 0, .int .u32 0, .int .u32 0]) := by kernel_rfl
theorem tk162 : tk Tryz.prog 162 = .agg := by kernel_rfl
theorem tI162 : tI Tryz.prog 162 = some (3, true) := by kernel_rfl
theorem zI162 : zI Tryz.prog 162 = some (.agg [.int .u32 0, .int .u32 0, .int .u32 0]) := by kernel_rfl
theorem fI162_0 : fI Tryz.prog 162 0 = some (0, 1, false) := by kernel_rfl
theorem fI162_1 : fI Tryz.prog 162 1 = some (1, 1, false) := by kernel_rfl
theorem fI162_2 : fI Tryz.prog 162 2 = some (2, 1, false) := by kernel_rfl
theorem bI162 : bI Tryz.prog 162 = some ([(0, 1), (1, 1), (2, 1)], [.int .u32 0, .int .u32 0, .int .u32 0]) := by kernel_rfl
theorem tk164 : tk Tryz.prog 164 = .agg := by kernel_rfl
theorem tI164 : tI Tryz.prog 164 = some (32, true) := by kernel_rfl
theorem zI164 : zI Tryz.prog 164 = some (.agg [.int .u8 0, .int .u8 0, .int .u8 0, .int .u8 0, .int .u8 0, .int .u8 0, .int .u8 0, .int .u8 0, .int .u8 0, .int .u8 0, .int .u8 0, .int .u8 0, .int .u8 0, .int .u8 0, .int .u8 0, .int .u8 0, .int .u8 0, .int .u8 0, .int .u8 0, .int .u8 0, .int .u8 0, .int .u8 0, .int .u8 0, .int .u8 0, .int .u8 0, .int .u8 0, .int .u8 0, .int .u8 0, .int .u8 0, .int .u8 0, .int .u8 0, .int .u8 0]) := by kernel_rfl
theorem aI164 : aI Tryz.prog 164 = some (32, 1, false) := by kernel_rfl
theorem tk165 : tk Tryz.prog 165 = .agg := by kernel_rfl
theorem tI165 : tI Tryz.prog 165 = some (64, true) := by kernel_rfl
theorem aI165 : aI Tryz.prog 165 = some (64, 1, false) := by kernel_rfl
theorem tk166 : tk Tryz.prog 166 = .ptr := by kernel_rfl
theorem tI166 : tI Tryz.prog 166 = some (1, false) := by kernel_rfl
theorem zI166 : zI Tryz.prog 166 = some (.nilp) := by kernel_rfl
theorem tk167 : tk Tryz.prog 167 = .ptr := by kernel_rfl
theorem tI167 : tI Tryz.prog 167 = some (1, false) := by kernel_rfl
theorem zI167 : zI Tryz.prog 167 = some (.nilp) := by kernel_rfl
theorem tk168 : tk Tryz.prog 168 = .agg := by kernel_rfl
theorem tI168 : tI Tryz.prog 168 = some (4, true) := by kernel_rfl
theorem zI168 : zI Tryz.prog 168 = some (.agg [.nilp, .nilp, .nilp, .str []]) := by kernel_rfl
theorem fI168_0 : fI Tryz.prog 168 0 = some (0, 1, false) := by kernel_rfl
theorem fI168_1 : fI Tryz.prog 168 1 = some (1, 1, false) := by kernel_rfl
theorem fI168_2 : fI Tryz.prog 168 2 = some (2, 1, false) := by kernel_rfl
theorem fI168_3 : fI Tryz.prog 168 3 = some (3, 1, false) := by kernel_rfl
theorem bI168 : bI Tryz.prog 168 = some ([(0, 1), (1, 1), (2, 1), (3, 1)], [.nilp, .nilp, .nilp, .str []]) := by kernel_rfl
theorem tk169 : tk Tryz.prog 169 = .agg := by kernel_rfl
theorem tI169 : tI Tryz.prog 169 = some (4, true) := by kernel_rfl
theorem zI169 : zI Tryz.prog 169 = some (.agg [.nilp, .nilp, .nilp, .str []]) := by kernel_rfl
theorem fI169_0 : fI Tryz.prog 169 0 = some (0, 1, false) := by kernel_rfl
theorem fI169_1 : fI Tryz.prog 169 1 = some (1, 1, false) := by kernel_rfl
theorem fI169_2 : fI Tryz.prog 169 2 = some (2, 1, false) := by kernel_rfl
theorem fI169_3 : fI Tryz.prog 169 3 = some (3, 1, false) := by kernel_rfl
theorem bI169 : bI Tryz.prog 169 = some ([(0, 1), (1, 1), (2, 1), (3, 1)], [.nilp, .nilp, .nilp, .str []]) := by kernel_rfl
theorem tk170 : tk Tryz.prog 170 = .agg := by kernel_rfl
theorem tI170 : tI Tryz.prog 170 = some (0, true) := by kernel_rfl
theorem zI170 : zI Tryz.prog 170 = some (.agg []) := by kernel_rfl
theorem aI170 : aI Tryz.prog 170 = some (0, 1, false) := by kernel_rfl
theorem tk171 : tk Tryz.prog 171 = .agg := by kernel_rfl
theorem tI171 : tI Tryz.prog 171 = some (0, true) := by kernel_rfl
theorem zI171 : zI Tryz.prog 171 = some (.agg []) := by kernel_rfl
theorem bI171 : bI Tryz.prog 171 = some ([(0, 0)], []) := by kernel_rfl
theorem tk172 : tk Tryz.prog 172 = .agg := by kernel_rfl
theorem tI172 : tI Tryz.prog 172 = some (0, true) := by kernel_rfl
theorem zI172 : zI Tryz.prog 172 = some (.agg []) := by kernel_rfl
theorem bI172 : bI Tryz.prog 172 = some ([(0, 0)], []) := by kernel_rfl
theorem tk174 : tk Tryz.prog 174 = .int .u8 := by kernel_rfl
theorem tI174 : tI Tryz.prog 174 = some (1, false) := by kernel_rfl
theorem un174 : (∃ d, Tryz.prog.underlying 174 = some d) = True := eq_true ⟨_, tk_int tk174⟩
theorem zI174 : zI Tryz.prog 174 = some (.int .u8 0) := by kernel_rfl
theorem tk175 : tk Tryz.prog 175 = .int .u8 := by kernel_rfl
theorem tI175 : tI Tryz.prog 175 = some (1, false) := by kernel_rfl
theorem un175 : (∃ d, Tryz.prog.underlying 175 = some d) = True := eq_true ⟨_, tk_int tk175⟩
theorem zI175 : zI Tryz.prog 175 = some (.int .u8 0) := by kernel_rfl
theorem tk177 : tk Tryz.prog 177 = .int .i32 := by kernel_rfl
theorem tI177 : tI Tryz.prog 177 = some (1, false) := by kernel_rfl
theorem un177 : (∃ d, Tryz.prog.underlying 177 = some d) = True := eq_true ⟨_, tk_int tk177⟩
theorem zI177 : zI Tryz.prog 177 = some (.int .i32 0) := by kernel_rfl
theorem tk178 : tk Tryz.prog 178 = .int .i32 := by kernel_rfl
theorem tI178 : tI Tryz.prog 178 = some (1, false) := by kernel_rfl
theorem un178 : (∃ d, Tryz.prog.underlying 178 = some d) = True := eq_true ⟨_, tk_int tk178⟩
theorem zI178 : zI Tryz.prog 178 = some (.int .i32 0) := by kernel_rfl
theorem tk179 : tk Tryz.prog 179 = .agg := by kernel_rfl
theorem tI179 : tI Tryz.prog 179 = some (11, true) := by kernel_rfl
theorem zI179 : zI Tryz.prog 179 = some (.agg [.int .u64 0, .int .u64 0, .int .u32 0, .int .u8 0, .int .u8 0, .int .u8 0, .int .u8 0, .nilf, .nilp, .int .i32 0, .int .i32 0]) := by kernel_rfl
theorem fI179_0 : fI Tryz.prog 179 0 = some (0, 1, false) := by kernel_rfl
theorem fI179_1 : fI Tryz.prog 179 1 = some (1, 1, false) := by kernel_rfl
theorem fI179_2 : fI Tryz.prog 179 2 = some (2, 1, false) := by kernel_rfl
theorem fI179_3 : fI Tryz.prog 179 3 = some (3, 1, false) := by kernel_rfl
theorem fI179_4 : fI Tryz.prog 179 4 = some (4, 1, false) := by kernel_rfl
theorem fI179_5 : fI Tryz.prog 179 5 = some (5, 1, false) := by kernel_rfl
theorem fI179_6 : fI Tryz.prog 179 6 = some (6, 1, false) := by kernel_rfl
theorem fI179_7 : fI Tryz.prog 179 7 = some (7, 1, false) := by kernel_rfl
theorem fI179_8 : fI Tryz.prog 179 8 = some (8, 1, false) := by kernel_rfl
theorem fI179_9 : fI Tryz.prog 179 9 = some (9, 1, false) := by kernel_rfl
theorem fI179_10 : fI Tryz.prog 179 10 = some (10, 1, false) := by kernel_rfl
theorem bI179 : bI Tryz.prog 179 = some ([(0, 1), (1, 1), (2, 1), (3, 1), (4, 1), (5, 1), (6, 1), (7, 1), (8, 1), (9, 1), (10, 1)], [.int .u64 0, .int .u64 0, .int .u32 0, .int .u8 0, .int .u8 0, .int .u8 0, .int .u8 0, .nilf, .nilp, .int .i32 0, .int .i32 0]) := by kernel_rfl
theorem tk180 : tk Tryz.prog 180 = .agg := by kernel_rfl
theorem tI180 : tI Tryz.prog 180 = some (11, true) := by kernel_rfl
theorem zI180 : zI Tryz.prog 180 = some (.agg [.int .u64 0, .int .u64 0, .int .u32 0, .int .u8 0, .int .u8 0, .int .u8 0, .int .u8 0, .nilf, .nilp, .int .i32 0, .int .i32 0]) := by kernel_rfl
theorem fI180_0 : fI Tryz.prog 180 0 = some (0, 1, false) := by kernel_rfl
theorem fI180_1 : fI Tryz.prog 180 1 = some (1, 1, false) := by kernel_rfl
theorem fI180_2 : fI Tryz.prog 180 2 = some (2, 1, false) := by kernel_rfl
theorem fI180_3 : fI Tryz.prog 180 3 = some (3, 1, false) := by kernel_rfl
theorem fI180_4 : fI Tryz.prog 180 4 = some (4, 1, false) := by kernel_rfl
theorem fI180_5 : fI Tryz.prog 180 5 = some (5, 1, false) := by kernel_rfl
theorem fI180_6 : fI Tryz.prog 180 6 = some (6, 1, false) := by kernel_rfl
theorem fI180_7 : fI Tryz.prog 180 7 = some (7, 1, false) := by kernel_rfl
theorem fI180_8 : fI Tryz.prog 180 8 = some (8, 1, false) := by kernel_rfl
theorem fI180_9 : fI Tryz.prog 180 9 = some (9, 1, false) := by kernel_rfl
theorem fI180_10 : fI Tryz.prog 180 10 = some (10, 1, false) := by kernel_rfl
theorem bI180 : bI Tryz.prog 180 = some ([(0, 1), (1, 1), (2, 1), (3, 1), (4, 1), (5, 1), (6, 1), (7, 1), (8, 1), (9, 1), (10, 1)], [.int .u64 0, .int .u64 0, .int .u32 0, .int .u8 0, .int .u8 0, .int .u8 0, .int .u8 0, .nilf, .nilp, .int .i32 0, .int .i32 0]) := by kernel_rfl
theorem en3 : entersB Tryz.prog 3 = true := by kernel_rfl
theorem en4 : entersB Tryz.prog 4 = true := by kernel_rfl
theorem en5 : entersB Tryz.prog 5 = true := by kernel_rfl
theorem en6 : entersB Tryz.prog 6 = true := by kernel_rfl
theorem en7 : entersB Tryz.prog 7 = true := by kernel_rfl
theorem en8 : entersB Tryz.prog 8 = true := by kernel_rfl
theorem en9 : entersB Tryz.prog 9 = true := by kernel_rfl
theorem en10 : entersB Tryz.prog 10 = true := by kernel_rfl
theorem en11 : entersB Tryz.prog 11 = true := by kernel_rfl
theorem en12 : entersB Tryz.prog 12 = true := by kernel_rfl
theorem en13 : entersB Tryz.prog 13 = true := by kernel_rfl
theorem en14 : entersB Tryz.prog 14 = true := by kernel_rfl
theorem en15 : entersB Tryz.prog 15 = true := by kernel_rfl
theorem en16 : entersB Tryz.prog 16 = true := by kernel_rfl
theorem en17 : entersB Tryz.prog 17 = true := by kernel_rfl
theorem en18 : entersB Tryz.prog 18 = true := by kernel_rfl
theorem en19 : entersB Tryz.prog 19 = true := by kernel_rfl
theorem en20 : entersB Tryz.prog 20 = true := by kernel_rfl
theorem en21 : entersB Tryz.prog 21 = true := by kernel_rfl
theorem en22 : entersB Tryz.prog 22 = true := by kernel_rfl
theorem en23 : entersB Tryz.prog 23 = true := by kernel_rfl
theorem en24 : entersB Tryz.prog 24 = true := by kernel_rfl
theorem en25 : entersB Tryz.prog 25 = true := by kernel_rfl
theorem en26 : entersB Tryz.prog 26 = true := by kernel_rfl
theorem en27 : entersB Tryz.prog 27 = true := by kernel_rfl
theorem en28 : entersB Tryz.prog 28 = true := by kernel_rfl
theorem en29 : entersB Tryz.prog 29 = true := by kernel_rfl
theorem en30 : entersB Tryz.prog 30 = true := by kernel_rfl
theorem en31 : entersB Tryz.prog 31 = true := by kernel_rfl
theorem en32 : entersB Tryz.prog 32 = true := by kernel_rfl
theorem en33 : entersB Tryz.prog 33 = true := by kernel_rfl
theorem en34 : entersB Tryz.prog 34 = true := by kernel_rfl
theorem en35 : entersB Tryz.prog 35 = true := by kernel_rfl
theorem en36 : entersB Tryz.prog 36 = true := by kernel_rfl
theorem en37 : entersB Tryz.prog 37 = true := by kernel_rfl
theorem en38 : entersB Tryz.prog 38 = true := by kernel_rfl
theorem en39 : entersB Tryz.prog 39 = true := by kernel_rfl
theorem en40 : entersB Tryz.prog 40 = true := by kernel_rfl
theorem en41 : entersB Tryz.prog 41 = true := by kernel_rfl
theorem en42 : entersB Tryz.prog 42 = true := by kernel_rfl
theorem en43 : entersB Tryz.prog 43 = true := by kernel_rfl
theorem en44 : entersB Tryz.prog 44 = true := by kernel_rfl
theorem en45 : entersB Tryz.prog 45 = true := by kernel_rfl
theorem en46 : entersB Tryz.prog 46 = true := by kernel_rfl
theorem en47 : entersB Tryz.prog 47 = true := by kernel_rfl
theorem en48 : entersB Tryz.prog 48 = true := by kernel_rfl
theorem en49 : entersB Tryz.prog 49 = true := by kernel_rfl
theorem en50 : entersB Tryz.prog 50 = true := by kernel_rfl
theorem en51 : entersB Tryz.prog 51 = true := by kernel_rfl
theorem en52 : entersB Tryz.prog 52 = true := by kernel_rfl
theorem en53 : entersB Tryz.prog 53 = true := by kernel_rfl
theorem en54 : entersB Tryz.prog 54 = true := by kernel_rfl
theorem en55 : entersB Tryz.prog 55 = true := by kernel_rfl
theorem en56 : entersB Tryz.prog 56 = true := by kernel_rfl
theorem en57 : entersB Tryz.prog 57 = true := by kernel_rfl
theorem en58 : entersB Tryz.prog 58 = true := by kernel_rfl
theorem en59 : entersB Tryz.prog 59 = true := by kernel_rfl
theorem en60 : entersB Tryz.prog 60 = true := by kernel_rfl
theorem en61 : entersB Tryz.prog 61 = true := by kernel_rfl
theorem en62 : entersB Tryz.prog 62 = true := by kernel_rfl
theorem en63 : entersB Tryz.prog 63 = true := by kernel_rfl
theorem en64 : entersB Tryz.prog 64 = true := by kernel_rfl
theorem en66 : entersB Tryz.prog 66 = true := by kernel_rfl
theorem en67 : entersB Tryz.prog 67 = true := by kernel_rfl
theorem en68 : entersB Tryz.prog 68 = true := by kernel_rfl
theorem en69 : entersB Tryz.prog 69 = true := by kernel_rfl
theorem en70 : entersB Tryz.prog 70 = true := by kernel_rfl
theorem en71 : entersB Tryz.prog 71 = true := by kernel_rfl
theorem en72 : entersB Tryz.prog 72 = true := by kernel_rfl
theorem en73 : entersB Tryz.prog 73 = true := by kernel_rfl
theorem en74 : entersB Tryz.prog 74 = true := by kernel_rfl
theorem en75 : entersB Tryz.prog 75 = true := by kernel_rfl
theorem en76 : entersB Tryz.prog 76 = true := by kernel_rfl
theorem en77 : entersB Tryz.prog 77 = true := by kernel_rfl
theorem en79 : entersB Tryz.prog 79 = true := by kernel_rfl
theorem en80 : entersB Tryz.prog 80 = true := by kernel_rfl
theorem en81 : entersB Tryz.prog 81 = true := by kernel_rfl
theorem en82 : entersB Tryz.prog 82 = true := by kernel_rfl
theorem en83 : entersB Tryz.prog 83 = true := by kernel_rfl
theorem en84 : entersB Tryz.prog 84 = true := by kernel_rfl
theorem en85 : entersB Tryz.prog 85 = true := by kernel_rfl
theorem en86 : entersB Tryz.prog 86 = true := by kernel_rfl
theorem en87 : entersB Tryz.prog 87 = true := by kernel_rfl
theorem en88 : entersB Tryz.prog 88 = true := by kernel_rfl
theorem en89 : entersB Tryz.prog 89 = true := by kernel_rfl
theorem en93 : entersB Tryz.prog 93 = true := by kernel_rfl
theorem en94 : entersB Tryz.prog 94 = true := by kernel_rfl
theorem en95 : entersB Tryz.prog 95 = true := by kernel_rfl
theorem en96 : entersB Tryz.prog 96 = true := by kernel_rfl
theorem en97 : entersB Tryz.prog 97 = true := by kernel_rfl
theorem en98 : entersB Tryz.prog 98 = true := by kernel_rfl
theorem en99 : entersB Tryz.prog 99 = true := by kernel_rfl
theorem en100 : entersB Tryz.prog 100 = true := by kernel_rfl
theorem en101 : entersB Tryz.prog 101 = true := by kernel_rfl
theorem en102 : entersB Tryz.prog 102 = true := by kernel_rfl
theorem en103 : entersB Tryz.prog 103 = true := by kernel_rfl
theorem en104 : entersB Tryz.prog 104 = true := by kernel_rfl
theorem en105 : entersB Tryz.prog 105 = true := by kernel_rfl
theorem en141 : entersB Tryz.prog 141 = true := by kernel_rfl
attribute [go_sem] tk2 tI2 un2 zI2 tk3 tI3 un3 zI3 tk4 tI4 zI4 tk5 tI5 un5 zI5 tk6 tI6 un6 zI6 tk7 tI7 zI7 fI7_0 fI7_1 fI7_2 fI7_3 bI7 tk8 tI8 zI8 fI8_0 fI8_1 fI8_2 fI8_3 bI8 tk9 tI9 un9 zI9 tk10 tI10 un10 zI10 tk11 tI11 un11 zI11 tk12 tI12 un12 zI12 tk13 tI13 zI13 fI13_0 fI13_1 bI13 tk14 tI14 zI14 fI14_0 fI14_1 bI14 tk15 tI15 zI15 tk16 tI16 zI16 tk17 tI17 zI17 tk18 tI18 zI18 fI18_0 bI18 tk19 tI19 zI19 fI19_0 bI19 tk20 tI20 zI20 tk21 tI21 un21 zI21 tk22 tI22 un22 zI22 eI22 tk23 tI23 zI23 fI23_0 fI23_1 bI23 tk24 tI24 zI24 fI24_0 fI24_1 bI24 tk25 tI25 un25 zI25 eI25 tk26 tI26 un26 zI26 eI26 tk27 tI27 zI27 fI27_0 fI27_1 fI27_2 bI27 tk28 tI28 zI28 fI28_0 fI28_1 fI28_2 bI28 tk29 tI29 zI29 aI29 tk33 tI33 un33 zI33 tk36 tI36 un36 zI36 eI36 tk40 tI40 zI40 fI40_0 fI40_1 fI40_2 bI40 tk41 tI41 zI41 fI41_0 fI41_1 fI41_2 bI41 tk43 tI43 zI43 fI43_0 fI43_1 fI43_2 bI43 tk44 tI44 zI44 fI44_0 fI44_1 fI44_2 bI44 tk63 tI63 zI63 tk64 tI64 zI64 fI64_0 bI64 tk65 tI65 zI65 fI65_0 bI65 tk73 tI73 zI73 tk74 tI74 zI74 tk80 tI80 zI80 tk94 tI94 zI94 tk95 tI95 un95 zI95 eI95 tk96 tI96 zI96 fI96_0 fI96_1 bI96 tk97 tI97 zI97 fI97_0 fI97_1 bI97 tk104 tI104 un104 zI104 tk107 tI107 zI107 tk112 tI112 zI112 tk114 tI114 un114 zI114 tk115 tI115 un115 zI115 tk119 tI119 zI119 fI119_0 fI119_1 fI119_2 bI119 tk120 tI120 zI120 fI120_0 fI120_1 fI120_2 bI120 tk122 tI122 zI122 aI122 tk127 tI127 aI127 tk133 tI133 zI133 fI133_0 fI133_1 bI133 tk134 tI134 zI134 fI134_0 fI134_1 bI134 tk135 tI135 zI135 aI135 tk136 tI136 un136 zI136 tk140 tI140 zI140 tk141 tI141 zI141 fI141_0 bI141 tk142 tI142 zI142 fI142_0 bI142 tk144 tI144 zI144 aI144 tk145 tI145 aI145 tk147 tI147 un147 zI147 eI147 tk148 tI148 zI148 fI148_0 fI148_1 bI148 tk149 tI149 zI149 fI149_0 fI149_1 bI149 tk151 tI151 zI151 tk153 tI153 un153 zI153 eI153 tk154 tI154 un154 zI154 eI154 tk155 tI155 zI155 fI155_0 fI155_1 fI155_2 bI155 tk156 tI156 zI156 fI156_0 fI156_1 fI156_2 bI156 tk157 tI157 un157 zI157 tk158 tI158 zI158 fI158_0 fI158_1 fI158_2 bI158 tk159 tI159 zI159 fI159_0 fI159_1 fI159_2 bI159 tk161 tI161 zI161 fI161_0 fI161_1 fI161_2 bI161 tk162 tI162 zI162 fI162_0 fI162_1 fI162_2 bI162 tk164 tI164 zI164 aI164 tk165 tI165 aI165 tk166 tI166 zI166 tk167 tI167 zI167 tk168 tI168 zI168 fI168_0 fI168_1 fI168_2 fI168_3 bI168 tk169 tI169 zI169 fI169_0 fI169_1 fI169_2 fI169_3 bI169 tk170 tI170 zI170 aI170 tk171 tI171 zI171 bI171 tk172 tI172 zI172 bI172 tk174 tI174 un174 zI174 tk175 tI175 un175 zI175 tk177 tI177 un177 zI177 tk178 tI178 un178 zI178 tk179 tI179 zI179 fI179_0 fI179_1 fI179_2 fI179_3 fI179_4 fI179_5 fI179_6 fI179_7 fI179_8 fI179_9 fI179_10 bI179 tk180 tI180 zI180 fI180_0 fI180_1 fI180_2 fI180_3 fI180_4 fI180_5 fI180_6 fI180_7 fI180_8 fI180_9 fI180_10 bI180 en3 en4 en5 en6 en7 en8 en9 en10 en11 en12 en13 en14 en15 en16 en17 en18 en19 en20 en21 en22 en23 en24 en25 en26 en27 en28 en29 en30 en31 en32 en33 en34 en35 en36 en37 en38 en39 en40 en41 en42 en43 en44 en45 en46 en47 en48 en49 en50 en51 en52 en53 en54 en55 en56 en57 en58 en59 en60 en61 en62 en63 en64 en66 en67 en68 en69 en70 en71 en72 en73 en74 en75 en76 en77 en79 en80 en81 en82 en83 en84 en85 en86 en87 en88 en89 en93 en94 en95 en96 en97 en98 en99 en100 en101 en102 en103 en104 en105 en141
end Go.Proofs.YtohppebjmfnmdaaGreatDoorT
