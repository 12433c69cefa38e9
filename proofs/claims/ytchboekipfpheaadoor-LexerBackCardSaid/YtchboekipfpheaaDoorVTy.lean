/- YtchboekipfpheaaDoorVTy: a text of the proof of this claim, by its prover. -/
import Derived.Test.YtchboekipfpheaaDoorVS
import Derived.Test.YtchboekipfpheaaDoorProg
import Derived.KernelRfl
namespace Go.Proofs.YtchboekipfpheaaDoorT
open Go.Proofs.Vale Go.Proofs
theorem tk2 : tk Tryd.prog 2 = .int .i64 := by kernel_rfl
theorem tI2 : tI Tryd.prog 2 = some (1, false) := by kernel_rfl
theorem un2 : (∃ d, Tryd.prog.underlying 2 = some d) = True := eq_true ⟨_, tk_int tk2⟩
theorem zI2 : zI Tryd.prog 2 = some (.int .i64 0) := by kernel_rfl
theorem tk3 : tk Tryd.prog 3 = .int .i64 := by kernel_rfl
theorem tI3 : tI Tryd.prog 3 = some (1, false) := by kernel_rfl
theorem un3 : (∃ d, Tryd.prog.underlying 3 = some d) = True := eq_true ⟨_, tk_int tk3⟩
theorem zI3 : zI Tryd.prog 3 = some (.int .i64 0) := by kernel_rfl
theorem tk4 : tk Tryd.prog 4 = .bool := by kernel_rfl
theorem tI4 : tI Tryd.prog 4 = some (1, false) := by kernel_rfl
theorem zI4 : zI Tryd.prog 4 = some (.bool false) := by kernel_rfl
theorem tk5 : tk Tryd.prog 5 = .int .u8 := by kernel_rfl
theorem tI5 : tI Tryd.prog 5 = some (1, false) := by kernel_rfl
theorem un5 : (∃ d, Tryd.prog.underlying 5 = some d) = True := eq_true ⟨_, tk_int tk5⟩
theorem zI5 : zI Tryd.prog 5 = some (.int .u8 0) := by kernel_rfl
theorem tk6 : tk Tryd.prog 6 = .int .u8 := by kernel_rfl
theorem tI6 : tI Tryd.prog 6 = some (1, false) := by kernel_rfl
theorem un6 : (∃ d, Tryd.prog.underlying 6 = some d) = True := eq_true ⟨_, tk_int tk6⟩
theorem zI6 : zI Tryd.prog 6 = some (.int .u8 0) := by kernel_rfl
theorem tk7 : tk Tryd.prog 7 = .agg := by kernel_rfl
theorem tI7 : tI Tryd.prog 7 = some (4, true) := by kernel_rfl
theorem zI7 : zI Tryd.prog 7 = some (.agg [.int .i64 0, .int .i64 0, .bool false, .int .u8 0]) := by kernel_rfl
theorem fI7_0 : fI Tryd.prog 7 0 = some (0, 1, false) := by kernel_rfl
theorem fI7_1 : fI Tryd.prog 7 1 = some (1, 1, false) := by kernel_rfl
theorem fI7_2 : fI Tryd.prog 7 2 = some (2, 1, false) := by kernel_rfl
theorem fI7_3 : fI Tryd.prog 7 3 = some (3, 1, false) := by kernel_rfl
theorem bI7 : bI Tryd.prog 7 = some ([(0, 1), (1, 1), (2, 1), (3, 1)], [.int .i64 0, .int .i64 0, .bool false, .int .u8 0]) := by kernel_rfl
theorem tk8 : tk Tryd.prog 8 = .agg := by kernel_rfl
theorem tI8 : tI Tryd.prog 8 = some (4, true) := by kernel_rfl
theorem zI8 : zI Tryd.prog 8 = some (.agg [.int .i64 0, .int .i64 0, .bool false, .int .u8 0]) := by kernel_rfl
theorem fI8_0 : fI Tryd.prog 8 0 = some (0, 1, false) := by kernel_rfl
theorem fI8_1 : fI Tryd.prog 8 1 = some (1, 1, false) := by kernel_rfl
theorem fI8_2 : fI Tryd.prog 8 2 = some (2, 1, false) := by kernel_rfl
theorem fI8_3 : fI Tryd.prog 8 3 = some (3, 1, false) := by kernel_rfl
theorem bI8 : bI Tryd.prog 8 = some ([(0, 1), (1, 1), (2, 1), (3, 1)], [.int .i64 0, .int .i64 0, .bool false, .int .u8 0]) := by kernel_rfl
theorem tk9 : tk Tryd.prog 9 = .str := by kernel_rfl
theorem tI9 : tI Tryd.prog 9 = some (1, false) := by kernel_rfl
theorem un9 : (∃ d, Tryd.prog.underlying 9 = some d) = True := eq_true ⟨_, tk_str tk9⟩
theorem zI9 : zI Tryd.prog 9 = some (.str []) := by kernel_rfl
theorem tk10 : tk Tryd.prog 10 = .str := by kernel_rfl
theorem tI10 : tI Tryd.prog 10 = some (1, false) := by kernel_rfl
theorem un10 : (∃ d, Tryd.prog.underlying 10 = some d) = True := eq_true ⟨_, tk_str tk10⟩
theorem zI10 : zI Tryd.prog 10 = some (.str []) := by kernel_rfl
theorem tk11 : tk Tryd.prog 11 = .str := by kernel_rfl
theorem tI11 : tI Tryd.prog 11 = some (1, false) := by kernel_rfl
theorem un11 : (∃ d, Tryd.prog.underlying 11 = some d) = True := eq_true ⟨_, tk_str tk11⟩
theorem zI11 : zI Tryd.prog 11 = some (.str []) := by kernel_rfl
theorem tk12 : tk Tryd.prog 12 = .int .u64 := by kernel_rfl
theorem tI12 : tI Tryd.prog 12 = some (1, false) := by kernel_rfl
theorem un12 : (∃ d, Tryd.prog.underlying 12 = some d) = True := eq_true ⟨_, tk_int tk12⟩
theorem zI12 : zI Tryd.prog 12 = some (.int .u64 0) := by kernel_rfl
theorem tk13 : tk Tryd.prog 13 = .agg := by kernel_rfl
theorem tI13 : tI Tryd.prog 13 = some (2, true) := by kernel_rfl
theorem zI13 : zI Tryd.prog 13 = some (.agg [.str [], .int .u64 0]) := by kernel_rfl
theorem fI13_0 : fI Tryd.prog 13 0 = some (0, 1, false) := by kernel_rfl
theorem fI13_1 : fI Tryd.prog 13 1 = some (1, 1, false) := by kernel_rfl
theorem bI13 : bI Tryd.prog 13 = some ([(0, 1), (1, 1)], [.str [], .int .u64 0]) := by kernel_rfl
theorem tk14 : tk Tryd.prog 14 = .agg := by kernel_rfl
theorem tI14 : tI Tryd.prog 14 = some (2, true) := by kernel_rfl
theorem zI14 : zI Tryd.prog 14 = some (.agg [.str [], .int .u64 0]) := by kernel_rfl
theorem fI14_0 : fI Tryd.prog 14 0 = some (0, 1, false) := by kernel_rfl
theorem fI14_1 : fI Tryd.prog 14 1 = some (1, 1, false) := by kernel_rfl
theorem bI14 : bI Tryd.prog 14 = some ([(0, 1), (1, 1)], [.str [], .int .u64 0]) := by kernel_rfl
theorem tk15 : tk Tryd.prog 15 = .ptr := by kernel_rfl
theorem tI15 : tI Tryd.prog 15 = some (1, false) := by kernel_rfl
theorem zI15 : zI Tryd.prog 15 = some (.nilp) := by kernel_rfl
theorem tk16 : tk Tryd.prog 16 = .ptr := by kernel_rfl
theorem tI16 : tI Tryd.prog 16 = some (1, false) := by kernel_rfl
theorem zI16 : zI Tryd.prog 16 = some (.nilp) := by kernel_rfl
theorem tk17 : tk Tryd.prog 17 = .ptr := by kernel_rfl
theorem tI17 : tI Tryd.prog 17 = some (1, false) := by kernel_rfl
theorem zI17 : zI Tryd.prog 17 = some (.nilp) := by kernel_rfl
theorem tk18 : tk Tryd.prog 18 = .agg := by kernel_rfl
theorem tI18 : tI Tryd.prog 18 = some (1, true) := by kernel_rfl
theorem zI18 : zI Tryd.prog 18 = some (.agg [.nilp]) := by kernel_rfl
theorem fI18_0 : fI Tryd.prog 18 0 = some (0, 1, false) := by kernel_rfl
theorem bI18 : bI Tryd.prog 18 = some ([(0, 1)], [.nilp]) := by kernel_rfl
theorem tk19 : tk Tryd.prog 19 = .agg := by kernel_rfl
theorem tI19 : tI Tryd.prog 19 = some (1, true) := by kernel_rfl
theorem zI19 : zI Tryd.prog 19 = some (.agg [.nilp]) := by kernel_rfl
theorem fI19_0 : fI Tryd.prog 19 0 = some (0, 1, false) := by kernel_rfl
theorem bI19 : bI Tryd.prog 19 = some ([(0, 1)], [.nilp]) := by kernel_rfl
theorem tk20 : tk Tryd.prog 20 = .iface := by kernel_rfl
theorem tI20 : tI Tryd.prog 20 = some (1, false) := by kernel_rfl
theorem zI20 : zI Tryd.prog 20 = some (.nili) := by kernel_rfl
theorem tk21 : tk Tryd.prog 21 = .int .i32 := by kernel_rfl
theorem tI21 : tI Tryd.prog 21 = some (1, false) := by kernel_rfl
theorem un21 : (∃ d, Tryd.prog.underlying 21 = some d) = True := eq_true ⟨_, tk_int tk21⟩
theorem zI21 : zI Tryd.prog 21 = some (.int .i32 0) := by kernel_rfl
theorem tk23 : tk Tryd.prog 23 = .sl 31 := by kernel_rfl
theorem tI23 : tI Tryd.prog 23 = some (1, false) := by kernel_rfl
theorem un23 : (∃ d, Tryd.prog.underlying 23 = some d) = True := eq_true ⟨_, tk_sl tk23⟩
theorem zI23 : zI Tryd.prog 23 = some (.fz true []) := by kernel_rfl
theorem eI23 : eI Tryd.prog 23 = some (31, 3, 32) := by kernel_rfl
theorem tk24 : tk Tryd.prog 24 = .int .i64 := by kernel_rfl
theorem tI24 : tI Tryd.prog 24 = some (1, false) := by kernel_rfl
theorem un24 : (∃ d, Tryd.prog.underlying 24 = some d) = True := eq_true ⟨_, tk_int tk24⟩
theorem zI24 : zI Tryd.prog 24 = some (.int .i64 0) := by kernel_rfl
theorem tk29 : tk Tryd.prog 29 = .int .i64 := by kernel_rfl
theorem tI29 : tI Tryd.prog 29 = some (1, false) := by kernel_rfl
theorem un29 : (∃ d, Tryd.prog.underlying 29 = some d) = True := eq_true ⟨_, tk_int tk29⟩
theorem zI29 : zI Tryd.prog 29 = some (.int .i64 0) := by kernel_rfl
theorem tk30 : tk Tryd.prog 30 = .agg := by kernel_rfl
theorem tI30 : tI Tryd.prog 30 = some (3, true) := by kernel_rfl
theorem zI30 : zI Tryd.prog 30 = some (.agg [.int .i64 0, .str [], .int .i64 0]) := by kernel_rfl
theorem fI30_0 : fI Tryd.prog 30 0 = some (0, 1, false) := by kernel_rfl
theorem fI30_1 : fI Tryd.prog 30 1 = some (1, 1, false) := by kernel_rfl
theorem fI30_2 : fI Tryd.prog 30 2 = some (2, 1, false) := by kernel_rfl
theorem bI30 : bI Tryd.prog 30 = some ([(0, 1), (1, 1), (2, 1)], [.int .i64 0, .str [], .int .i64 0]) := by kernel_rfl
theorem tk31 : tk Tryd.prog 31 = .agg := by kernel_rfl
theorem tI31 : tI Tryd.prog 31 = some (3, true) := by kernel_rfl
theorem zI31 : zI Tryd.prog 31 = some (.agg [.int .i64 0, .str [], .int .i64 0]) := by kernel_rfl
theorem fI31_0 : fI Tryd.prog 31 0 = some (0, 1, false) := by kernel_rfl
theorem fI31_1 : fI Tryd.prog 31 1 = some (1, 1, false) := by kernel_rfl
theorem fI31_2 : fI Tryd.prog 31 2 = some (2, 1, false) := by kernel_rfl
theorem bI31 : bI Tryd.prog 31 = some ([(0, 1), (1, 1), (2, 1)], [.int .i64 0, .str [], .int .i64 0]) := by kernel_rfl
theorem flatI31 : flatI Tryd.prog 31 = true := by kernel_rfl
theorem flatK31 : flatK Tryd.prog 31 = [.int .i64, .str, .int .i64] := by kernel_rfl
theorem tk45 : tk Tryd.prog 45 = .sl 9 := by kernel_rfl
theorem tI45 : tI Tryd.prog 45 = some (1, false) := by kernel_rfl
theorem un45 : (∃ d, Tryd.prog.underlying 45 = some d) = True := eq_true ⟨_, tk_sl tk45⟩
theorem zI45 : zI Tryd.prog 45 = some (.fz true []) := by kernel_rfl
theorem eI45 : eI Tryd.prog 45 = some (9, 1, 16) := by kernel_rfl
theorem tk48 : tk Tryd.prog 48 = .agg := by kernel_rfl
theorem tI48 : tI Tryd.prog 48 = some (256, true) := by kernel_rfl
theorem aI48 : aI Tryd.prog 48 = some (256, 1, false) := by kernel_rfl
theorem tk49 : tk Tryd.prog 49 = .agg := by kernel_rfl
theorem tI49 : tI Tryd.prog 49 = some (256, true) := by kernel_rfl
theorem aI49 : aI Tryd.prog 49 = some (256, 1, false) := by kernel_rfl
theorem tk53 : tk Tryd.prog 53 = .ptr := by kernel_rfl
theorem tI53 : tI Tryd.prog 53 = some (1, false) := by kernel_rfl
theorem zI53 : zI Tryd.prog 53 = some (.nilp) := by kernel_rfl
theorem tk58 : tk Tryd.prog 58 = .ptr := by kernel_rfl
theorem tI58 : tI Tryd.prog 58 = some (1, false) := by kernel_rfl
theorem zI58 : zI Tryd.prog 58 = some (.nilp) := by kernel_rfl
theorem tk59 : tk Tryd.prog 59 = .sl 5 := by kernel_rfl
theorem tI59 : tI Tryd.prog 59 = some (1, false) := by kernel_rfl
theorem un59 : (∃ d, Tryd.prog.underlying 59 = some d) = True := eq_true ⟨_, tk_sl tk59⟩
theorem zI59 : zI Tryd.prog 59 = some (.fz true []) := by kernel_rfl
theorem eI59 : eI Tryd.prog 59 = some (5, 1, 1) := by kernel_rfl
theorem tk60 : tk Tryd.prog 60 = .agg := by kernel_rfl
theorem tI60 : tI Tryd.prog 60 = some (2, true) := by kernel_rfl
theorem zI60 : zI Tryd.prog 60 = some (.agg [.nilp, .fz true []]) := by kernel_rfl
theorem fI60_0 : fI Tryd.prog 60 0 = some (0, 1, false) := by kernel_rfl
theorem fI60_1 : fI Tryd.prog 60 1 = some (1, 1, false) := by kernel_rfl
theorem bI60 : bI Tryd.prog 60 = some ([(0, 1), (1, 1)], [.nilp, .fz true []]) := by kernel_rfl
theorem tk61 : tk Tryd.prog 61 = .agg := by kernel_rfl
theorem tI61 : tI Tryd.prog 61 = some (2, true) := by kernel_rfl
theorem zI61 : zI Tryd.prog 61 = some (.agg [.nilp, .fz true []]) := by kernel_rfl
theorem fI61_0 : fI Tryd.prog 61 0 = some (0, 1, false) := by kernel_rfl
theorem fI61_1 : fI Tryd.prog 61 1 = some (1, 1, false) := by kernel_rfl
theorem bI61 : bI Tryd.prog 61 = some ([(0, 1), (1, 1)], [.nilp, .fz true []]) := by kernel_rfl
theorem tk63 : tk Tryd.prog 63 = .iface := by kernel_rfl
theorem tI63 : tI Tryd.prog 63 = some (1, false) := by kernel_rfl
theorem zI63 : zI Tryd.prog 63 = some (.nili) := by kernel_rfl
theorem tk64 : tk Tryd.prog 64 = .iface := by kernel_rfl
theorem tI64 : tI Tryd.prog 64 = some (1, false) := by kernel_rfl
theorem zI64 : zI Tryd.prog 64 = some (.nili) := by kernel_rfl
theorem tk73 : tk Tryd.prog 73 = .ptr := by kernel_rfl
theorem tI73 : tI Tryd.prog 73 = some (1, false) := by kernel_rfl
theorem zI73 : zI Tryd.prog 73 = some (.nilp) := by kernel_rfl
theorem tk81 : tk Tryd.prog 81 = .agg := by kernel_rfl
theorem tI81 : tI Tryd.prog 81 = some (256, true) := by kernel_rfl
theorem aI81 : aI Tryd.prog 81 = some (256, 1, false) := by kernel_rfl
theorem tk82 : tk Tryd.prog 82 = .int .u64 := by kernel_rfl
theorem tI82 : tI Tryd.prog 82 = some (1, false) := by kernel_rfl
theorem un82 : (∃ d, Tryd.prog.underlying 82 = some d) = True := eq_true ⟨_, tk_int tk82⟩
theorem zI82 : zI Tryd.prog 82 = some (.int .u64 0) := by kernel_rfl
theorem tk83 : tk Tryd.prog 83 = .agg := by kernel_rfl
theorem tI83 : tI Tryd.prog 83 = some (2, true) := by kernel_rfl
theorem zI83 : zI Tryd.prog 83 = some (.agg [.int .u8 0, .int .u8 0]) := by kernel_rfl
theorem fI83_0 : fI Tryd.prog 83 0 = some (0, 1, false) := by kernel_rfl
theorem fI83_1 : fI Tryd.prog 83 1 = some (1, 1, false) := by kernel_rfl
theorem bI83 : bI Tryd.prog 83 = some ([(0, 1), (1, 1)], [.int .u8 0, .int .u8 0]) := by kernel_rfl
theorem tk84 : tk Tryd.prog 84 = .agg := by kernel_rfl
theorem tI84 : tI Tryd.prog 84 = some (2, true) := by kernel_rfl
theorem zI84 : zI Tryd.prog 84 = some (.agg [.int .u8 0, .int .u8 0]) := by kernel_rfl
theorem fI84_0 : fI Tryd.prog 84 0 = some (0, 1, false) := by kernel_rfl
theorem fI84_1 : fI Tryd.prog 84 1 = some (1, 1, false) := by kernel_rfl
theorem bI84 : bI Tryd.prog 84 = some ([(0, 1), (1, 1)], [.int .u8 0, .int .u8 0]) := by kernel_rfl
theorem tk85 : tk Tryd.prog 85 = .agg := by kernel_rfl
theorem tI85 : tI Tryd.prog 85 = some (32, true) := by kernel_rfl
theorem zI85 : zI Tryd.prog 85 = some (.agg [.int .u8 0, .int .u8 0, .int .u8 0, .int .u8 0, .int .u8 0, .int .u8 0, .int .u8 0, .int .u8 0, .int .u8 0, .int .u8 0, .int .u8 0, .int .u8 0, .int .u8 0, .int .u8 0, .int .u8 0, .int .u8 0, .int .u8 0, .int .u8 0, .int .u8 0, .int .u8 0, .int .u8 0, .int .u8 0, .int .u8 0, .int .u8 0, .int .u8 0, .int .u8 0, .int .u8 0, .int .u8 0, .int .u8 0, .int .u8 0, .int .u8 0, .int .u8 0]) := by kernel_rfl
theorem aI85 : aI Tryd.prog 85 = some (16, 2, true) := by kernel_rfl
theorem tk89 : tk Tryd.prog 89 = .int .i64 := by kernel_rfl
theorem tI89 : tI Tryd.prog 89 = some (1, false) := by kernel_rfl
theorem un89 : (∃ d, Tryd.prog.underlying 89 = some d) = True := eq_true ⟨_, tk_int tk89⟩
theorem zI89 : zI Tryd.prog 89 = some (.int .i64 0) := by kernel_rfl
theorem tk92 : tk Tryd.prog 92 = .ptr := by kernel_rfl
theorem tI92 : tI Tryd.prog 92 = some (1, false) := by kernel_rfl
theorem zI92 : zI Tryd.prog 92 = some (.nilp) := by kernel_rfl
theorem tk97 : tk Tryd.prog 97 = .int .u64 := by kernel_rfl
theorem tI97 : tI Tryd.prog 97 = some (1, false) := by kernel_rfl
theorem un97 : (∃ d, Tryd.prog.underlying 97 = some d) = True := eq_true ⟨_, tk_int tk97⟩
theorem zI97 : zI Tryd.prog 97 = some (.int .u64 0) := by kernel_rfl
theorem tk101 : tk Tryd.prog 101 = .agg := by kernel_rfl
theorem tI101 : tI Tryd.prog 101 = some (3, true) := by kernel_rfl
theorem zI101 : zI Tryd.prog 101 = some (.agg [.str [], .str [], .nili]) := by kernel_rfl
theorem fI101_0 : fI Tryd.prog 101 0 = some (0, 1, false) := by kernel_rfl
theorem fI101_1 : fI Tryd.prog 101 1 = some (1, 1, false) := by kernel_rfl
theorem fI101_2 : fI Tryd.prog 101 2 = some (2, 1, false) := by kernel_rfl
theorem bI101 : bI Tryd.prog 101 = some ([(0, 1), (1, 1), (2, 1)], [.str [], .str [], .nili]) := by kernel_rfl
theorem tk102 : tk Tryd.prog 102 = .agg := by kernel_rfl
theorem tI102 : tI Tryd.prog 102 = some (3, true) := by kernel_rfl
theorem zI102 : zI Tryd.prog 102 = some (.agg [.str [], .str [], .nili]) := by kernel_rfl
theorem fI102_0 : fI Tryd.prog 102 0 = some (0, 1, false) := by kernel_rfl
theorem fI102_1 : fI Tryd.prog 102 1 = some (1, 1, false) := by kernel_rfl
theorem fI102_2 : fI Tryd.prog 102 2 = some (2, 1, false) := by kernel_rfl
theorem bI102 : bI Tryd.prog 102 = some ([(0, 1), (1, 1), (2, 1)], [.str [], .str [], .nili]) := by kernel_rfl
theorem tk105 : tk Tryd.prog 105 = .int .u32 := by kernel_rfl
theorem tI105 : tI Tryd.prog 105 = some (1, false) := by kernel_rfl
theorem un105 : (∃ d, Tryd.prog.underlying 105 = some d) = True := eq_true ⟨_, tk_int tk105⟩
theorem zI105 : zI Tryd.prog 105 = some (.int .u32 0) := by kernel_rfl
theorem tk109 : tk Tryd.prog 109 = .ptr := by kernel_rfl
theorem tI109 : tI Tryd.prog 109 = some (1, false) := by kernel_rfl
theorem zI109 : zI Tryd.prog 109 = some (.nilp) := by kernel_rfl
theorem tk110 : tk Tryd.prog 110 = .agg := by kernel_rfl
theorem tI110 : tI Tryd.prog 110 = some (1, true) := by kernel_rfl
theorem zI110 : zI Tryd.prog 110 = some (.agg [.str []]) := by kernel_rfl
theorem fI110_0 : fI Tryd.prog 110 0 = some (0, 1, false) := by kernel_rfl
theorem bI110 : bI Tryd.prog 110 = some ([(0, 1)], [.str []]) := by kernel_rfl
theorem tk111 : tk Tryd.prog 111 = .agg := by kernel_rfl
theorem tI111 : tI Tryd.prog 111 = some (1, true) := by kernel_rfl
theorem zI111 : zI Tryd.prog 111 = some (.agg [.str []]) := by kernel_rfl
theorem fI111_0 : fI Tryd.prog 111 0 = some (0, 1, false) := by kernel_rfl
theorem bI111 : bI Tryd.prog 111 = some ([(0, 1)], [.str []]) := by kernel_rfl
theorem tk113 : tk Tryd.prog 113 = .agg := by kernel_rfl
theorem tI113 : tI Tryd.prog 113 = some (24, true) := by kernel_rfl
theorem zI113 : zI Tryd.prog 113 = some (.agg [.int .u8 0, .int .u8 0, .int .u8 0, .int .u8 0, .int .u8 0, .int .u8 0, .int .u8 0, .int .u8 0, .int .u8 0, .int .u8 0, .int .u8 0, .int .u8 0, .int .u8 0, .int .u8 0, .int .u8 0, .int .u8 0, .int .u8 0, .int .u8 0, .int .u8 0, .int .u8 0, .int .u8 0, .int .u8 0, .int .u8 0, .int .u8 0]) := by kernel_rfl
theorem aI113 : aI Tryd.prog 113 = some (24, 1, false) := by kernel_rfl
theorem tk119 : tk Tryd.prog 119 = .agg := by kernel_rfl
theorem tI119 : tI Tryd.prog 119 = some (20, true) := by kernel_rfl
theorem zI119 : zI Tryd.prog 119 = some (.agg [.int .u64 0, .int .u64 0, .int .u64 0, .int .u64 0, .int .u64 0, .int .u64 0, .int .u64 0, .int .u64 0, .int .u64 0, .int .u64 0, .int .u64 0, .int .u64 0, .int .u64 0, .int .u64 0, .int .u64 0, .int .u64 0, .int .u64 0, .int .u64 0, .int .u64 0, .int .u64 0]) := by kernel_rfl
theorem aI119 : aI Tryd.prog 119 = some (20, 1, false) := by kernel_rfl
theorem tk120 : tk Tryd.prog 120 = .agg := by kernel_rfl
theorem tI120 : tI Tryd.prog 120 = some (65, true) := by kernel_rfl
theorem aI120 : aI Tryd.prog 120 = some (65, 1, false) := by kernel_rfl
theorem tk123 : tk Tryd.prog 123 = .agg := by kernel_rfl
theorem tI123 : tI Tryd.prog 123 = some (32, true) := by kernel_rfl
theorem zI123 : zI Tryd.prog 123 = some (.agg [.int .u8 0, .int .u8 0, .int .u8 0, .int .u8 0, .int .u8 0, .int .u8 0, .int .u8 0, .int .u8 0, .int .u8 0, .int .u8 0, .int .u8 0, .int .u8 0, .int .u8 0, .int .u8 0, .int .u8 0, .int .u8 0, .int .u8 0, .int .u8 0, .int .u8 0, .int .u8 0, .int .u8 0, .int .u8 0, .int .u8 0, .int .u8 0, .int .u8 0, .int .u8 0, .int .u8 0, .int .u8 0, .int .u8 0, .int .u8 0, .int .u8 0, .int .u8 0]) := by kernel_rfl
theorem aI123 : aI Tryd.prog 123 = some (32, 1, false) := by kernel_rfl
theorem tk124 : tk Tryd.prog 124 = .agg := by kernel_rfl
theorem tI124 : tI Tryd.prog 124 = some (64, true) := by kernel_rfl
theorem aI124 : aI Tryd.prog 124 = some (64, 1, false) := by kernel_rfl
theorem tk125 : tk Tryd.prog 125 = .agg := by kernel_rfl
theorem tI125 : tI Tryd.prog 125 = some (4, true) := by kernel_rfl
theorem zI125 : zI Tryd.prog 125 = some (.agg [.nilp, .nilp, .nilp, .str []]) := by kernel_rfl
theorem fI125_0 : fI Tryd.prog 125 0 = some (0, 1, false) := by kernel_rfl
theorem fI125_1 : fI Tryd.prog 125 1 = some (1, 1, false) := by kernel_rfl
theorem fI125_2 : fI Tryd.prog 125 2 = some (2, 1, false) := by kernel_rfl
theorem fI125_3 : fI Tryd.prog 125 3 = some (3, 1, false) := by kernel_rfl
theorem bI125 : bI Tryd.prog 125 = some ([(0, 1), (1, 1), (2, 1), (3, 1)], [.nilp, .nilp, .nilp, .str []]) := by kernel_rfl
theorem tk126 : tk Tryd.prog 126 = .agg := by kernel_rfl
theorem tI126 : tI Tryd.prog 126 = some (4, true) := by kernel_rfl
theorem zI126 : zI Tryd.prog 126 = some (.agg [.nilp, .nilp, .nilp, .str []]) := by kernel_rfl
theorem fI126_0 : fI Tryd.prog 126 0 = some (0, 1, false) := by kernel_rfl
theorem fI126_1 : fI Tryd.prog 126 1 = some (1, 1, false) := by kernel_rfl
theorem fI126_2 : fI Tryd.prog 126 2 = some (2, 1, false) := by kernel_rfl
theorem fI126_3 : fI Tryd.prog 126 3 = some (3, 1, false) := by kernel_rfl
theorem bI126 : bI Tryd.prog 126 = some ([(0, 1), (1, 1), (2, 1), (3, 1)], [.nilp, .nilp, .nilp, .str []]) := by kernel_rfl
theorem tk127 : tk Tryd.prog 127 = .agg := by kernel_rfl
theorem tI127 : tI Tryd.prog 127 = some (0, true) := by kernel_rfl
theorem zI127 : zI Tryd.prog 127 = some (.agg []) := by kernel_rfl
theorem aI127 : aI Tryd.prog 127 = some (0, 1, false) := by kernel_rfl
theorem tk128 : tk Tryd.prog 128 = .agg := by kernel_rfl
theorem tI128 : tI Tryd.prog 128 = some (0, true) := by kernel_rfl
theorem zI128 : zI Tryd.prog 128 = some (.agg []) := by kernel_rfl
theorem bI128 : bI Tryd.prog 128 = some ([(0, 0)], []) := by kernel_rfl
theorem tk129 : tk Tryd.prog 129 = .agg := by kernel_rfl
theorem tI129 : tI Tryd.prog 129 = some (0, true) := by kernel_rfl
theorem zI129 : zI Tryd.prog 129 = some (.agg []) := by kernel_rfl
theorem bI129 : bI Tryd.prog 129 = some ([(0, 0)], []) := by kernel_rfl
theorem tk131 : tk Tryd.prog 131 = .int .u8 := by kernel_rfl
theorem tI131 : tI Tryd.prog 131 = some (1, false) := by kernel_rfl
theorem un131 : (∃ d, Tryd.prog.underlying 131 = some d) = True := eq_true ⟨_, tk_int tk131⟩
theorem zI131 : zI Tryd.prog 131 = some (.int .u8 0) := by kernel_rfl
theorem tk132 : tk Tryd.prog 132 = .int .u8 := by kernel_rfl
theorem tI132 : tI Tryd.prog 132 = some (1, false) := by kernel_rfl
theorem un132 : (∃ d, Tryd.prog.underlying 132 = some d) = True := eq_true ⟨_, tk_int tk132⟩
theorem zI132 : zI Tryd.prog 132 = some (.int .u8 0) := by kernel_rfl
theorem tk134 : tk Tryd.prog 134 = .int .i32 := by kernel_rfl
theorem tI134 : tI Tryd.prog 134 = some (1, false) := by kernel_rfl
theorem un134 : (∃ d, Tryd.prog.underlying 134 = some d) = True := eq_true ⟨_, tk_int tk134⟩
theorem zI134 : zI Tryd.prog 134 = some (.int .i32 0) := by kernel_rfl
theorem tk135 : tk Tryd.prog 135 = .int .i32 := by kernel_rfl
theorem tI135 : tI Tryd.prog 135 = some (1, false) := by kernel_rfl
theorem un135 : (∃ d, Tryd.prog.underlying 135 = some d) = True := eq_true ⟨_, tk_int tk135⟩
theorem zI135 : zI Tryd.prog 135 = some (.int .i32 0) := by kernel_rfl
theorem tk136 : tk Tryd.prog 136 = .agg := by kernel_rfl
theorem tI136 : tI Tryd.prog 136 = some (11, true) := by kernel_rfl
theorem zI136 : zI Tryd.prog 136 = some (.agg [.int .u64 0, .int .u64 0, .int .u32 0, .int .u8 0, .int .u8 0, .int .u8 0, .int .u8 0, .nilf, .nilp, .int .i32 0, .int .i32 0]) := by kernel_rfl
theorem fI136_0 : fI Tryd.prog 136 0 = some (0, 1, false) := by kernel_rfl
theorem fI136_1 : fI Tryd.prog 136 1 = some (1, 1, false) := by kernel_rfl
theorem fI136_2 : fI Tryd.prog 136 2 = some (2, 1, false) := by kernel_rfl
theorem fI136_3 : fI Tryd.prog 136 3 = some (3, 1, false) := by kernel_rfl
theorem fI136_4 : fI Tryd.prog 136 4 = some (4, 1, false) := by kernel_rfl
theorem fI136_5 : fI Tryd.prog 136 5 = some (5, 1, false) := by kernel_rfl
theorem fI136_6 : fI Tryd.prog 136 6 = some (6, 1, false) := by kernel_rfl
theorem fI136_7 : fI Tryd.prog 136 7 = some (7, 1, false) := by kernel_rfl
theorem fI136_8 : fI Tryd.prog 136 8 = some (8, 1, false) := by kernel_rfl
theorem fI136_9 : fI Tryd.prog 136 9 = some (9, 1, false) := by kernel_rfl
theorem fI136_10 : fI Tryd.prog 136 10 = some (10, 1, false) := by kernel_rfl
theorem bI136 : bI Tryd.prog 136 = some ([(0, 1), (1, 1), (2, 1), (3, 1), (4, 1), (5, 1), (6, 1), (7, 1), (8, 1), (9, 1), (10, 1)], [.int .u64 0, .int .u64 0, .int .u32 0, .int .u8 0, .int .u8 0, .int .u8 0, .int .u8 0, .nilf, .nilp, .int .i32 0, .int .i32 0]) := by kernel_rfl
theorem tk137 : tk Tryd.prog 137 = .agg := by kernel_rfl
theorem tI137 : tI Tryd.prog 137 = some (11, true) := by kernel_rfl
theorem zI137 : zI Tryd.prog 137 = some (.agg [.int .u64 0, .int .u64 0, .int .u32 0, .int .u8 0, .int .u8 0, .int .u8 0, .int .u8 0, .nilf, .nilp, .int .i32 0, .int .i32 0]) := by kernel_rfl
theorem fI137_0 : fI Tryd.prog 137 0 = some (0, 1, false) := by kernel_rfl
theorem fI137_1 : fI Tryd.prog 137 1 = some (1, 1, false) := by kernel_rfl
theorem fI137_2 : fI Tryd.prog 137 2 = some (2, 1, false) := by kernel_rfl
theorem fI137_3 : fI Tryd.prog 137 3 = some (3, 1, false) := by kernel_rfl
theorem fI137_4 : fI Tryd.prog 137 4 = some (4, 1, false) := by kernel_rfl
theorem fI137_5 : fI Tryd.prog 137 5 = some (5, 1, false) := by kernel_rfl
theorem fI137_6 : fI Tryd.prog 137 6 = some (6, 1, false) := by kernel_rfl
theorem fI137_7 : fI Tryd.prog 137 7 = some (7, 1, false) := by kernel_rfl
theorem fI137_8 : fI Tryd.prog 137 8 = some (8, 1, false) := by kernel_rfl
theorem fI137_9 : fI Tryd.prog 137 9 = some (9, 1, false) := by kernel_rfl
theorem fI137_10 : fI Tryd.prog 137 10 = some (10, 1, false) := by kernel_rfl
theorem bI137 : bI Tryd.prog 137 = some ([(0, 1), (1, 1), (2, 1), (3, 1), (4, 1), (5, 1), (6, 1), (7, 1), (8, 1), (9, 1), (10, 1)], [.int .u64 0, .int .u64 0, .int .u32 0, .int .u8 0, .int .u8 0, .int .u8 0, .int .u8 0, .nilf, .nilp, .int .i32 0, .int .i32 0]) := by kernel_rfl
theorem en3 : entersB Tryd.prog 3 = true := by kernel_rfl
theorem en4 : entersB Tryd.prog 4 = true := by kernel_rfl
theorem en5 : entersB Tryd.prog 5 = true := by kernel_rfl
theorem en6 : entersB Tryd.prog 6 = true := by kernel_rfl
theorem en7 : entersB Tryd.prog 7 = true := by kernel_rfl
theorem en8 : entersB Tryd.prog 8 = true := by kernel_rfl
theorem en9 : entersB Tryd.prog 9 = true := by kernel_rfl
theorem en10 : entersB Tryd.prog 10 = true := by kernel_rfl
theorem en11 : entersB Tryd.prog 11 = true := by kernel_rfl
theorem en12 : entersB Tryd.prog 12 = true := by kernel_rfl
theorem en13 : entersB Tryd.prog 13 = true := by kernel_rfl
theorem en14 : entersB Tryd.prog 14 = true := by kernel_rfl
theorem en15 : entersB Tryd.prog 15 = true := by kernel_rfl
theorem en16 : entersB Tryd.prog 16 = true := by kernel_rfl
theorem en17 : entersB Tryd.prog 17 = true := by kernel_rfl
theorem en18 : entersB Tryd.prog 18 = true := by kernel_rfl
theorem en19 : entersB Tryd.prog 19 = true := by kernel_rfl
theorem en20 : entersB Tryd.prog 20 = true := by kernel_rfl
theorem en21 : entersB Tryd.prog 21 = true := by kernel_rfl
theorem en22 : entersB Tryd.prog 22 = true := by kernel_rfl
theorem en23 : entersB Tryd.prog 23 = true := by kernel_rfl
theorem en24 : entersB Tryd.prog 24 = true := by kernel_rfl
theorem en25 : entersB Tryd.prog 25 = true := by kernel_rfl
theorem en26 : entersB Tryd.prog 26 = true := by kernel_rfl
theorem en27 : entersB Tryd.prog 27 = true := by kernel_rfl
theorem en28 : entersB Tryd.prog 28 = true := by kernel_rfl
theorem en29 : entersB Tryd.prog 29 = true := by kernel_rfl
theorem en30 : entersB Tryd.prog 30 = true := by kernel_rfl
theorem en31 : entersB Tryd.prog 31 = true := by kernel_rfl
theorem en32 : entersB Tryd.prog 32 = true := by kernel_rfl
theorem en33 : entersB Tryd.prog 33 = true := by kernel_rfl
theorem en34 : entersB Tryd.prog 34 = true := by kernel_rfl
theorem en35 : entersB Tryd.prog 35 = true := by kernel_rfl
theorem en36 : entersB Tryd.prog 36 = true := by kernel_rfl
theorem en37 : entersB Tryd.prog 37 = true := by kernel_rfl
theorem en38 : entersB Tryd.prog 38 = true := by kernel_rfl
theorem en39 : entersB Tryd.prog 39 = true := by kernel_rfl
theorem en40 : entersB Tryd.prog 40 = true := by kernel_rfl
theorem en41 : entersB Tryd.prog 41 = true := by kernel_rfl
theorem en42 : entersB Tryd.prog 42 = true := by kernel_rfl
theorem en43 : entersB Tryd.prog 43 = true := by kernel_rfl
theorem en44 : entersB Tryd.prog 44 = true := by kernel_rfl
theorem en45 : entersB Tryd.prog 45 = true := by kernel_rfl
theorem en46 : entersB Tryd.prog 46 = true := by kernel_rfl
theorem en47 : entersB Tryd.prog 47 = true := by kernel_rfl
theorem en48 : entersB Tryd.prog 48 = true := by kernel_rfl
theorem en49 : entersB Tryd.prog 49 = true := by kernel_rfl
theorem en50 : entersB Tryd.prog 50 = true := by kernel_rfl
theorem en51 : entersB Tryd.prog 51 = true := by kernel_rfl
theorem en52 : entersB Tryd.prog 52 = true := by kernel_rfl
theorem en54 : entersB Tryd.prog 54 = true := by kernel_rfl
theorem en55 : entersB Tryd.prog 55 = true := by kernel_rfl
theorem en56 : entersB Tryd.prog 56 = true := by kernel_rfl
theorem en57 : entersB Tryd.prog 57 = true := by kernel_rfl
theorem en58 : entersB Tryd.prog 58 = true := by kernel_rfl
theorem en59 : entersB Tryd.prog 59 = true := by kernel_rfl
theorem en60 : entersB Tryd.prog 60 = true := by kernel_rfl
theorem en61 : entersB Tryd.prog 61 = true := by kernel_rfl
theorem en64 : entersB Tryd.prog 64 = true := by kernel_rfl
theorem en65 : entersB Tryd.prog 65 = true := by kernel_rfl
theorem en67 : entersB Tryd.prog 67 = true := by kernel_rfl
theorem en68 : entersB Tryd.prog 68 = true := by kernel_rfl
theorem en69 : entersB Tryd.prog 69 = true := by kernel_rfl
theorem en70 : entersB Tryd.prog 70 = true := by kernel_rfl
theorem en71 : entersB Tryd.prog 71 = true := by kernel_rfl
theorem en72 : entersB Tryd.prog 72 = true := by kernel_rfl
theorem en73 : entersB Tryd.prog 73 = true := by kernel_rfl
theorem en74 : entersB Tryd.prog 74 = true := by kernel_rfl
theorem en75 : entersB Tryd.prog 75 = true := by kernel_rfl
theorem en76 : entersB Tryd.prog 76 = true := by kernel_rfl
theorem en77 : entersB Tryd.prog 77 = true := by kernel_rfl
theorem en78 : entersB Tryd.prog 78 = true := by kernel_rfl
theorem en79 : entersB Tryd.prog 79 = true := by kernel_rfl
theorem en80 : entersB Tryd.prog 80 = true := by kernel_rfl
theorem en81 : entersB Tryd.prog 81 = true := by kernel_rfl
theorem en82 : entersB Tryd.prog 82 = true := by kernel_rfl
theorem en83 : entersB Tryd.prog 83 = true := by kernel_rfl
theorem en84 : entersB Tryd.prog 84 = true := by kernel_rfl
theorem en85 : entersB Tryd.prog 85 = true := by kernel_rfl
theorem en86 : entersB Tryd.prog 86 = true := by kernel_rfl
theorem en87 : entersB Tryd.prog 87 = true := by kernel_rfl
theorem en88 : entersB Tryd.prog 88 = true := by kernel_rfl
theorem en89 : entersB Tryd.prog 89 = true := by kernel_rfl
theorem en90 : entersB Tryd.prog 90 = true := by kernel_rfl
theorem en91 : entersB Tryd.prog 91 = true := by kernel_rfl
theorem en92 : entersB Tryd.prog 92 = true := by kernel_rfl
theorem en93 : entersB Tryd.prog 93 = true := by kernel_rfl
theorem en94 : entersB Tryd.prog 94 = true := by kernel_rfl
theorem en95 : entersB Tryd.prog 95 = true := by kernel_rfl
theorem en96 : entersB Tryd.prog 96 = true := by kernel_rfl
theorem en97 : entersB Tryd.prog 97 = true := by kernel_rfl
attribute [go_sem] tk2 tI2 un2 zI2 tk3 tI3 un3 zI3 tk4 tI4 zI4 tk5 tI5 un5 zI5 tk6 tI6 un6 zI6 tk7 tI7 zI7 fI7_0 fI7_1 fI7_2 fI7_3 bI7 tk8 tI8 zI8 fI8_0 fI8_1 fI8_2 fI8_3 bI8 tk9 tI9 un9 zI9 tk10 tI10 un10 zI10 tk11 tI11 un11 zI11 tk12 tI12 un12 zI12 tk13 tI13 zI13 fI13_0 fI13_1 bI13 tk14 tI14 zI14 fI14_0 fI14_1 bI14 tk15 tI15 zI15 tk16 tI16 zI16 tk17 tI17 zI17 tk18 tI18 zI18 fI18_0 bI18 tk19 tI19 zI19 fI19_0 bI19 tk20 tI20 zI20 tk21 tI21 un21 zI21 tk23 tI23 un23 zI23 eI23 tk24 tI24 un24 zI24 tk29 tI29 un29 zI29 tk30 tI30 zI30 fI30_0 fI30_1 fI30_2 bI30 tk31 tI31 zI31 fI31_0 fI31_1 fI31_2 bI31 flatI31 flatK31 tk45 tI45 un45 zI45 eI45 tk48 tI48 aI48 tk49 tI49 aI49 tk53 tI53 zI53 tk58 tI58 zI58 tk59 tI59 un59 zI59 eI59 tk60 tI60 zI60 fI60_0 fI60_1 bI60 tk61 tI61 zI61 fI61_0 fI61_1 bI61 tk63 tI63 zI63 tk64 tI64 zI64 tk73 tI73 zI73 tk81 tI81 aI81 tk82 tI82 un82 zI82 tk83 tI83 zI83 fI83_0 fI83_1 bI83 tk84 tI84 zI84 fI84_0 fI84_1 bI84 tk85 tI85 zI85 aI85 tk89 tI89 un89 zI89 tk92 tI92 zI92 tk97 tI97 un97 zI97 tk101 tI101 zI101 fI101_0 fI101_1 fI101_2 bI101 tk102 tI102 zI102 fI102_0 fI102_1 fI102_2 bI102 tk105 tI105 un105 zI105 tk109 tI109 zI109 tk110 tI110 zI110 fI110_0 bI110 tk111 tI111 zI111 fI111_0 bI111 tk113 tI113 zI113 aI113 tk119 tI119 zI119 aI119 tk120 tI120 aI120 tk123 tI123 zI123 aI123 tk124 tI124 aI124 tk125 tI125 zI125 fI125_0 fI125_1 fI125_2 fI125_3 bI125 tk126 tI126 zI126 fI126_0 fI126_1 fI126_2 fI126_3 bI126 tk127 tI127 zI127 aI127 tk128 tI128 zI128 bI128 tk129 tI129 zI129 bI129 tk131 tI131 un131 zI131 tk132 tI132 un132 zI132 tk134 tI134 un134 zI134 tk135 tI135 un135 zI135 tk136 tI136 zI136 fI136_0 fI136_1 fI136_2 fI136_3 fI136_4 fI136_5 fI136_6 fI136_7 fI136_8 fI136_9 fI136_10 bI136 tk137 tI137 zI137 fI137_0 fI137_1 fI137_2 fI137_3 fI137_4 fI137_5 fI137_6 fI137_7 fI137_8 fI137_9 fI137_10 bI137 en3 en4 en5 en6 en7 en8 en9 en10 en11 en12 en13 en14 en15 en16 en17 en18 en19 en20 en21 en22 en23 en24 en25 en26 en27 en28 en29 en30 en31 en32 en33 en34 en35 en36 en37 en38 en39 en40 en41 en42 en43 en44 en45 en46 en47 en48 en49 en50 en51 en52 en54 en55 en56 en57 en58 en59 en60 en61 en64 en65 en67 en68 en69 en70 en71 en72 en73 en74 en75 en76 en77 en78 en79 en80 en81 en82 en83 en84 en85 en86 en87 en88 en89 en90 en91 en92 en93 en94 en95 en96 en97
end Go.Proofs.YtchboekipfpheaaDoorT
