/- YthgafblmefjkdaaDoorVTy: a text of the proof of this claim, by its prover. -/
import Derived.Test.YthgafblmefjkdaaDoorVS
import Derived.Test.YthgafblmefjkdaaDoorProg
import Derived.KernelRfl
namespace Go.Proofs.YthgafblmefjkdaaDoorT
open Go.Proofs.Vale Go.Proofs
theorem tk2 : tk Tryd.prog 2 = .int .i64 := by kernel_rfl
theorem tI2 : tI Tryd.prog 2 = some (1, false) := by kernel_rfl
theorem un2 : (∃ d, Tryd.prog.underlying 2 = some d) = True := eq_true ⟨_, tk_int tk2⟩
theorem zI2 : zI Tryd.prog 2 = some (.int .i64 0) := by kernel_rfl
theorem tk3 : tk Tryd.prog 3 = .int .i64 := by kernel_rfl
theorem tI3 : tI Tryd.prog 3 = some (1, false) := by kernel_rfl
theorem un3 : (∃ d, Tryd.prog.underlying 3 = some d) = True := eq_true ⟨_, tk_int tk3⟩
theorem zI3 : zI Tryd.prog 3 = some (.int .i64 0) := by kernel_rfl
theorem tk4 : tk Tryd.prog 4 = .bool := by kernel_rfl
theorem tI4 : tI Tryd.prog 4 = some (1, false) := by kernel_rfl
theorem zI4 : zI Tryd.prog 4 = some (.bool false) := by kernel_rfl
theorem tk5 : tk Tryd.prog 5 = .int .u8 := by kernel_rfl
theorem tI5 : tI Tryd.prog 5 = some (1, false) := by kernel_rfl
theorem un5 : (∃ d, Tryd.prog.underlying 5 = some d) = True := eq_true ⟨_, tk_int tk5⟩
theorem zI5 : zI Tryd.prog 5 = some (.int .u8 0) := by kernel_rfl
theorem tk6 : tk Tryd.prog 6 = .int .u8 := by kernel_rfl
theorem tI6 : tI Tryd.prog 6 = some (1, false) := by kernel_rfl
theorem un6 : (∃ d, Tryd.prog.underlying 6 = some d) = True := eq_true ⟨_, tk_int tk6⟩
theorem zI6 : zI Tryd.prog 6 = some (.int .u8 0) := by kernel_rfl
theorem tk7 : tk Tryd.prog 7 = .agg := by kernel_rfl
theorem tI7 : tI Tryd.prog 7 = some (4, true) := by kernel_rfl
theorem zI7 : zI Tryd.prog 7 = some (.agg [.int .i64 0, .int .i64 0, .bool false, .int .u8 0]) := by kernel_rfl
theorem fI7_0 : fI Tryd.prog 7 0 = some (0, 1, false) := by kernel_rfl
theorem fI7_1 : fI Tryd.prog 7 1 = some (1, 1, false) := by kernel_rfl
theorem fI7_2 : fI Tryd.prog 7 2 = some (2, 1, false) := by kernel_rfl
theorem fI7_3 : fI Tryd.prog 7 3 = some (3, 1, false) := by kernel_rfl
theorem bI7 : bI Tryd.prog 7 = some ([(0, 1), (1, 1), (2, 1), (3, 1)], [.int .i64 0, .int .i64 0, .bool false, .int .u8 0]) := by kernel_rfl
theorem tk8 : tk Tryd.prog 8 = .agg := by kernel_rfl
theorem tI8 : tI Tryd.prog 8 = some (4, true) := by kernel_rfl
theorem zI8 : zI Tryd.prog 8 = some (.agg [.int .i64 0, .int .i64 0, .bool false, .int .u8 0]) := by kernel_rfl
theorem fI8_0 : fI Tryd.prog 8 0 = some (0, 1, false) := by kernel_rfl
theorem fI8_1 : fI Tryd.prog 8 1 = some (1, 1, false) := by kernel_rfl
theorem fI8_2 : fI Tryd.prog 8 2 = some (2, 1, false) := by kernel_rfl
theorem fI8_3 : fI Tryd.prog 8 3 = some (3, 1, false) := by kernel_rfl
theorem bI8 : bI Tryd.prog 8 = some ([(0, 1), (1, 1), (2, 1), (3, 1)], [.int .i64 0, .int .i64 0, .bool false, .int .u8 0]) := by kernel_rfl
theorem tk9 : tk Tryd.prog 9 = .str := by kernel_rfl
theorem tI9 : tI Tryd.prog 9 = some (1, false) := by kernel_rfl
theorem un9 : (∃ d, Tryd.prog.underlying 9 = some d) = True := eq_true ⟨_, tk_str tk9⟩
theorem zI9 : zI Tryd.prog 9 = some (.str []) := by kernel_rfl
theorem tk10 : tk Tryd.prog 10 = .str := by kernel_rfl
theorem tI10 : tI Tryd.prog 10 = some (1, false) := by kernel_rfl
theorem un10 : (∃ d, Tryd.prog.underlying 10 = some d) = True := eq_true ⟨_, tk_str tk10⟩
theorem zI10 : zI Tryd.prog 10 = some (.str []) := by kernel_rfl
theorem tk11 : tk Tryd.prog 11 = .str := by kernel_rfl
theorem tI11 : tI Tryd.prog 11 = some (1, false) := by kernel_rfl
theorem un11 : (∃ d, Tryd.prog.underlying 11 = some d) = True := eq_true ⟨_, tk_str tk11⟩
theorem zI11 : zI Tryd.prog 11 = some (.str []) := by kernel_rfl
theorem tk12 : tk Tryd.prog 12 = .int .u64 := by kernel_rfl
theorem tI12 : tI Tryd.prog 12 = some (1, false) := by kernel_rfl
theorem un12 : (∃ d, Tryd.prog.underlying 12 = some d) = True := eq_true ⟨_, tk_int tk12⟩
theorem zI12 : zI Tryd.prog 12 = some (.int .u64 0) := by kernel_rfl
theorem tk13 : tk Tryd.prog 13 = .agg := by kernel_rfl
theorem tI13 : tI Tryd.prog 13 = some (2, true) := by kernel_rfl
theorem zI13 : zI Tryd.prog 13 = some (.agg [.str [], .int .u64 0]) := by kernel_rfl
theorem fI13_0 : fI Tryd.prog 13 0 = some (0, 1, false) := by kernel_rfl
theorem fI13_1 : fI Tryd.prog 13 1 = some (1, 1, false) := by kernel_rfl
theorem bI13 : bI Tryd.prog 13 = some ([(0, 1), (1, 1)], [.str [], .int .u64 0]) := by kernel_rfl
theorem tk14 : tk Tryd.prog 14 = .agg := by kernel_rfl
theorem tI14 : tI Tryd.prog 14 = some (2, true) := by kernel_rfl
theorem zI14 : zI Tryd.prog 14 = some (.agg [.str [], .int .u64 0]) := by kernel_rfl
theorem fI14_0 : fI Tryd.prog 14 0 = some (0, 1, false) := by kernel_rfl
theorem fI14_1 : fI Tryd.prog 14 1 = some (1, 1, false) := by kernel_rfl
theorem bI14 : bI Tryd.prog 14 = some ([(0, 1), (1, 1)], [.str [], .int .u64 0]) := by kernel_rfl
theorem tk15 : tk Tryd.prog 15 = .ptr := by kernel_rfl
theorem tI15 : tI Tryd.prog 15 = some (1, false) := by kernel_rfl
theorem zI15 : zI Tryd.prog 15 = some (.nilp) := by kernel_rfl
theorem tk16 : tk Tryd.prog 16 = .ptr := by kernel_rfl
theorem tI16 : tI Tryd.prog 16 = some (1, false) := by kernel_rfl
theorem zI16 : zI Tryd.prog 16 = some (.nilp) := by kernel_rfl
theorem tk17 : tk Tryd.prog 17 = .ptr := by kernel_rfl
theorem tI17 : tI Tryd.prog 17 = some (1, false) := by kernel_rfl
theorem zI17 : zI Tryd.prog 17 = some (.nilp) := by kernel_rfl
theorem tk18 : tk Tryd.prog 18 = .agg := by kernel_rfl
theorem tI18 : tI Tryd.prog 18 = some (1, true) := by kernel_rfl
theorem zI18 : zI Tryd.prog 18 = some (.agg [.nilp]) := by kernel_rfl
theorem fI18_0 : fI Tryd.prog 18 0 = some (0, 1, false) := by kernel_rfl
theorem bI18 : bI Tryd.prog 18 = some ([(0, 1)], [.nilp]) := by kernel_rfl
theorem tk19 : tk Tryd.prog 19 = .agg := by kernel_rfl
theorem tI19 : tI Tryd.prog 19 = some (1, true) := by kernel_rfl
theorem zI19 : zI Tryd.prog 19 = some (.agg [.nilp]) := by kernel_rfl
theorem fI19_0 : fI Tryd.prog 19 0 = some (0, 1, false) := by kernel_rfl
theorem bI19 : bI Tryd.prog 19 = some ([(0, 1)], [.nilp]) := by kernel_rfl
theorem tk20 : tk Tryd.prog 20 = .iface := by kernel_rfl
theorem tI20 : tI Tryd.prog 20 = some (1, false) := by kernel_rfl
theorem zI20 : zI Tryd.prog 20 = some (.nili) := by kernel_rfl
theorem tk21 : tk Tryd.prog 21 = .int .i32 := by kernel_rfl
theorem tI21 : tI Tryd.prog 21 = some (1, false) := by kernel_rfl
theorem un21 : (∃ d, Tryd.prog.underlying 21 = some d) = True := eq_true ⟨_, tk_int tk21⟩
theorem zI21 : zI Tryd.prog 21 = some (.int .i32 0) := by kernel_rfl
theorem tk22 : tk Tryd.prog 22 = .sl 9 := by kernel_rfl
theorem tI22 : tI Tryd.prog 22 = some (1, false) := by kernel_rfl
theorem un22 : (∃ d, Tryd.prog.underlying 22 = some d) = True := eq_true ⟨_, tk_sl tk22⟩
theorem zI22 : zI Tryd.prog 22 = some (.fz true []) := by kernel_rfl
theorem eI22 : eI Tryd.prog 22 = some (9, 1, 16) := by kernel_rfl
theorem tk23 : tk Tryd.prog 23 = .agg := by kernel_rfl
theorem tI23 : tI Tryd.prog 23 = some (2, true) := by kernel_rfl
theorem zI23 : zI Tryd.prog 23 = some (.agg [.fz true [], .fz true []]) := by kernel_rfl
theorem fI23_0 : fI Tryd.prog 23 0 = some (0, 1, false) := by kernel_rfl
theorem fI23_1 : fI Tryd.prog 23 1 = some (1, 1, false) := by kernel_rfl
theorem bI23 : bI Tryd.prog 23 = some ([(0, 1), (1, 1)], [.fz true [], .fz true []]) := by kernel_rfl
theorem tk24 : tk Tryd.prog 24 = .agg := by kernel_rfl
theorem tI24 : tI Tryd.prog 24 = some (2, true) := by kernel_rfl
theorem zI24 : zI Tryd.prog 24 = some (.agg [.fz true [], .fz true []]) := by kernel_rfl
theorem fI24_0 : fI Tryd.prog 24 0 = some (0, 1, false) := by kernel_rfl
theorem fI24_1 : fI Tryd.prog 24 1 = some (1, 1, false) := by kernel_rfl
theorem bI24 : bI Tryd.prog 24 = some ([(0, 1), (1, 1)], [.fz true [], .fz true []]) := by kernel_rfl
theorem tk32 : tk Tryd.prog 32 = .sl 3 := by kernel_rfl
theorem tI32 : tI Tryd.prog 32 = some (1, false) := by kernel_rfl
theorem un32 : (∃ d, Tryd.prog.underlying 32 = some d) = True := eq_true ⟨_, tk_sl tk32⟩
theorem zI32 : zI Tryd.prog 32 = some (.fz true []) := by kernel_rfl
theorem eI32 : eI Tryd.prog 32 = some (3, 1, 8) := by kernel_rfl
theorem tk33 : tk Tryd.prog 33 = .agg := by kernel_rfl
theorem tI33 : tI Tryd.prog 33 = some (3, true) := by kernel_rfl
theorem zI33 : zI Tryd.prog 33 = some (.agg [.int .i64 0, .fz true [], .fz true []]) := by kernel_rfl
theorem fI33_0 : fI Tryd.prog 33 0 = some (0, 1, false) := by kernel_rfl
theorem fI33_1 : fI Tryd.prog 33 1 = some (1, 1, false) := by kernel_rfl
theorem fI33_2 : fI Tryd.prog 33 2 = some (2, 1, false) := by kernel_rfl
theorem bI33 : bI Tryd.prog 33 = some ([(0, 1), (1, 1), (2, 1)], [.int .i64 0, .fz true [], .fz true []]) := by kernel_rfl
theorem tk34 : tk Tryd.prog 34 = .agg := by kernel_rfl
theorem tI34 : tI Tryd.prog 34 = some (3, true) := by kernel_rfl
theorem zI34 : zI Tryd.prog 34 = some (.agg [.int .i64 0, .fz true [], .fz true []]) := by kernel_rfl
theorem fI34_0 : fI Tryd.prog 34 0 = some (0, 1, false) := by kernel_rfl
theorem fI34_1 : fI Tryd.prog 34 1 = some (1, 1, false) := by kernel_rfl
theorem fI34_2 : fI Tryd.prog 34 2 = some (2, 1, false) := by kernel_rfl
theorem bI34 : bI Tryd.prog 34 = some ([(0, 1), (1, 1), (2, 1)], [.int .i64 0, .fz true [], .fz true []]) := by kernel_rfl
theorem tk35 : tk Tryd.prog 35 = .int .i64 := by kernel_rfl
theorem tI35 : tI Tryd.prog 35 = some (1, false) := by kernel_rfl
theorem un35 : (∃ d, Tryd.prog.underlying 35 = some d) = True := eq_true ⟨_, tk_int tk35⟩
theorem zI35 : zI Tryd.prog 35 = some (.int .i64 0) := by kernel_rfl
theorem tk57 : tk Tryd.prog 57 = .sl 22 := by kernel_rfl
theorem tI57 : tI Tryd.prog 57 = some (1, false) := by kernel_rfl
theorem un57 : (∃ d, Tryd.prog.underlying 57 = some d) = True := eq_true ⟨_, tk_sl tk57⟩
theorem zI57 : zI Tryd.prog 57 = some (.fz true []) := by kernel_rfl
theorem eI57 : eI Tryd.prog 57 = some (22, 1, 24) := by kernel_rfl
theorem tk61 : tk Tryd.prog 61 = .int .u64 := by kernel_rfl
theorem tI61 : tI Tryd.prog 61 = some (1, false) := by kernel_rfl
theorem un61 : (∃ d, Tryd.prog.underlying 61 = some d) = True := eq_true ⟨_, tk_int tk61⟩
theorem zI61 : zI Tryd.prog 61 = some (.int .u64 0) := by kernel_rfl
theorem tk64 : tk Tryd.prog 64 = .agg := by kernel_rfl
theorem tI64 : tI Tryd.prog 64 = some (256, true) := by kernel_rfl
theorem aI64 : aI Tryd.prog 64 = some (256, 1, false) := by kernel_rfl
theorem tk67 : tk Tryd.prog 67 = .agg := by kernel_rfl
theorem tI67 : tI Tryd.prog 67 = some (256, true) := by kernel_rfl
theorem aI67 : aI Tryd.prog 67 = some (256, 1, false) := by kernel_rfl
theorem tk68 : tk Tryd.prog 68 = .agg := by kernel_rfl
theorem tI68 : tI Tryd.prog 68 = some (256, true) := by kernel_rfl
theorem aI68 : aI Tryd.prog 68 = some (256, 1, false) := by kernel_rfl
theorem tk74 : tk Tryd.prog 74 = .int .i64 := by kernel_rfl
theorem tI74 : tI Tryd.prog 74 = some (1, false) := by kernel_rfl
theorem un74 : (∃ d, Tryd.prog.underlying 74 = some d) = True := eq_true ⟨_, tk_int tk74⟩
theorem zI74 : zI Tryd.prog 74 = some (.int .i64 0) := by kernel_rfl
theorem tk81 : tk Tryd.prog 81 = .int .u32 := by kernel_rfl
theorem tI81 : tI Tryd.prog 81 = some (1, false) := by kernel_rfl
theorem un81 : (∃ d, Tryd.prog.underlying 81 = some d) = True := eq_true ⟨_, tk_int tk81⟩
theorem zI81 : zI Tryd.prog 81 = some (.int .u32 0) := by kernel_rfl
theorem tk83 : tk Tryd.prog 83 = .int .u64 := by kernel_rfl
theorem tI83 : tI Tryd.prog 83 = some (1, false) := by kernel_rfl
theorem un83 : (∃ d, Tryd.prog.underlying 83 = some d) = True := eq_true ⟨_, tk_int tk83⟩
theorem zI83 : zI Tryd.prog 83 = some (.int .u64 0) := by kernel_rfl
theorem tk84 : tk Tryd.prog 84 = .sl 86 := by kernel_rfl
theorem tI84 : tI Tryd.prog 84 = some (1, false) := by kernel_rfl
theorem un84 : (∃ d, Tryd.prog.underlying 84 = some d) = True := eq_true ⟨_, tk_sl tk84⟩
theorem zI84 : zI Tryd.prog 84 = some (.fz true []) := by kernel_rfl
theorem eI84 : eI Tryd.prog 84 = some (86, 2, 16) := by kernel_rfl
theorem tk85 : tk Tryd.prog 85 = .agg := by kernel_rfl
theorem tI85 : tI Tryd.prog 85 = some (2, true) := by kernel_rfl
theorem zI85 : zI Tryd.prog 85 = some (.agg [.int .i64 0, .int .i64 0]) := by kernel_rfl
theorem fI85_0 : fI Tryd.prog 85 0 = some (0, 1, false) := by kernel_rfl
theorem fI85_1 : fI Tryd.prog 85 1 = some (1, 1, false) := by kernel_rfl
theorem bI85 : bI Tryd.prog 85 = some ([(0, 1), (1, 1)], [.int .i64 0, .int .i64 0]) := by kernel_rfl
theorem tk86 : tk Tryd.prog 86 = .agg := by kernel_rfl
theorem tI86 : tI Tryd.prog 86 = some (2, true) := by kernel_rfl
theorem zI86 : zI Tryd.prog 86 = some (.agg [.int .i64 0, .int .i64 0]) := by kernel_rfl
theorem fI86_0 : fI Tryd.prog 86 0 = some (0, 1, false) := by kernel_rfl
theorem fI86_1 : fI Tryd.prog 86 1 = some (1, 1, false) := by kernel_rfl
theorem bI86 : bI Tryd.prog 86 = some ([(0, 1), (1, 1)], [.int .i64 0, .int .i64 0]) := by kernel_rfl
theorem tk88 : tk Tryd.prog 88 = .ptr := by kernel_rfl
theorem tI88 : tI Tryd.prog 88 = some (1, false) := by kernel_rfl
theorem zI88 : zI Tryd.prog 88 = some (.nilp) := by kernel_rfl
theorem tk91 : tk Tryd.prog 91 = .ptr := by kernel_rfl
theorem tI91 : tI Tryd.prog 91 = some (1, false) := by kernel_rfl
theorem zI91 : zI Tryd.prog 91 = some (.nilp) := by kernel_rfl
theorem tk92 : tk Tryd.prog 92 = .int .u64 := by kernel_rfl
theorem tI92 : tI Tryd.prog 92 = some (1, false) := by kernel_rfl
theorem un92 : (∃ d, Tryd.prog.underlying 92 = some d) = True := eq_true ⟨_, tk_int tk92⟩
theorem zI92 : zI Tryd.prog 92 = some (.int .u64 0) := by kernel_rfl
theorem tk96 : tk Tryd.prog 96 = .ptr := by kernel_rfl
theorem tI96 : tI Tryd.prog 96 = some (1, false) := by kernel_rfl
theorem zI96 : zI Tryd.prog 96 = some (.nilp) := by kernel_rfl
theorem tk98 : tk Tryd.prog 98 = .sl 104 := by kernel_rfl
theorem tI98 : tI Tryd.prog 98 = some (1, false) := by kernel_rfl
theorem un98 : (∃ d, Tryd.prog.underlying 98 = some d) = True := eq_true ⟨_, tk_sl tk98⟩
theorem zI98 : zI Tryd.prog 98 = some (.fz true []) := by kernel_rfl
theorem eI98 : eI Tryd.prog 98 = some (104, 3, 6) := by kernel_rfl
theorem tk99 : tk Tryd.prog 99 = .sl 107 := by kernel_rfl
theorem tI99 : tI Tryd.prog 99 = some (1, false) := by kernel_rfl
theorem un99 : (∃ d, Tryd.prog.underlying 99 = some d) = True := eq_true ⟨_, tk_sl tk99⟩
theorem zI99 : zI Tryd.prog 99 = some (.fz true []) := by kernel_rfl
theorem eI99 : eI Tryd.prog 99 = some (107, 3, 12) := by kernel_rfl
theorem tk100 : tk Tryd.prog 100 = .agg := by kernel_rfl
theorem tI100 : tI Tryd.prog 100 = some (3, true) := by kernel_rfl
theorem zI100 : zI Tryd.prog 100 = some (.agg [.fz true [], .fz true [], .int .i64 0]) := by kernel_rfl
theorem fI100_0 : fI Tryd.prog 100 0 = some (0, 1, false) := by kernel_rfl
theorem fI100_1 : fI Tryd.prog 100 1 = some (1, 1, false) := by kernel_rfl
theorem fI100_2 : fI Tryd.prog 100 2 = some (2, 1, false) := by kernel_rfl
theorem bI100 : bI Tryd.prog 100 = some ([(0, 1), (1, 1), (2, 1)], [.fz true [], .fz true [], .int .i64 0]) := by kernel_rfl
theorem tk101 : tk Tryd.prog 101 = .agg := by kernel_rfl
theorem tI101 : tI Tryd.prog 101 = some (3, true) := by kernel_rfl
theorem zI101 : zI Tryd.prog 101 = some (.agg [.fz true [], .fz true [], .int .i64 0]) := by kernel_rfl
theorem fI101_0 : fI Tryd.prog 101 0 = some (0, 1, false) := by kernel_rfl
theorem fI101_1 : fI Tryd.prog 101 1 = some (1, 1, false) := by kernel_rfl
theorem fI101_2 : fI Tryd.prog 101 2 = some (2, 1, false) := by kernel_rfl
theorem bI101 : bI Tryd.prog 101 = some ([(0, 1), (1, 1), (2, 1)], [.fz true [], .fz true [], .int .i64 0]) := by kernel_rfl
theorem tk102 : tk Tryd.prog 102 = .int .u16 := by kernel_rfl
theorem tI102 : tI Tryd.prog 102 = some (1, false) := by kernel_rfl
theorem un102 : (∃ d, Tryd.prog.underlying 102 = some d) = True := eq_true ⟨_, tk_int tk102⟩
theorem zI102 : zI Tryd.prog 102 = some (.int .u16 0) := by kernel_rfl
theorem tk103 : tk Tryd.prog 103 = .agg := by kernel_rfl
theorem tI103 : tI Tryd.prog 103 = some (3, true) := by kernel_rfl
theorem zI103 : zI Tryd.prog 103 = some (.agg [.int .u16 0, .int .u16 0, .int .u16 0]) := by kernel_rfl
theorem fI103_0 : fI Tryd.prog 103 0 = some (0, 1, false) := by kernel_rfl
theorem fI103_1 : fI Tryd.prog 103 1 = some (1, 1, false) := by kernel_rfl
theorem fI103_2 : fI Tryd.prog 103 2 = some (2, 1, false) := by kernel_rfl
theorem bI103 : bI Tryd.prog 103 = some ([(0, 1), (1, 1), (2, 1)], [.int .u16 0, .int .u16 0, .int .u16 0]) := by kernel_rfl
theorem tk104 : tk Tryd.prog 104 = .agg := by kernel_rfl
theorem tI104 : tI Tryd.prog 104 = some (3, true) := by kernel_rfl
theorem zI104 : zI Tryd.prog 104 = some (.agg [.int .u16 0, .int .u16 0, .int .u16 0]) := by kernel_rfl
theorem fI104_0 : fI Tryd.prog 104 0 = some (0, 1, false) := by kernel_rfl
theorem fI104_1 : fI Tryd.prog 104 1 = some (1, 1, false) := by kernel_rfl
theorem fI104_2 : fI Tryd.prog 104 2 = some (2, 1, false) := by kernel_rfl
theorem bI104 : bI Tryd.prog 104 = some ([(0, 1), (1, 1), (2, 1)], [.int .u16 0, .int .u16 0, .int .u16 0]) := by kernel_rfl
theorem tk106 : tk Tryd.prog 106 = .agg := by kernel_rfl
theorem tI106 : tI Tryd.prog 106 = some (3, true) := by kernel_rfl
theorem zI106 : zI Tryd.prog 106 = some (.agg [.int .u32 0, .int .u32 0, .int .u32 0]) := by kernel_rfl
theorem fI106_0 : fI Tryd.prog 106 0 = some (0, 1, false) := by kernel_rfl
theorem fI106_1 : fI Tryd.prog 106 1 = some (1, 1, false) := by kernel_rfl
theorem fI106_2 : fI Tryd.prog 106 2 = some (2, 1, false) := by kernel_rfl
theorem bI106 : bI Tryd.prog 106 = some ([(0, 1), (1, 1), (2, 1)], [.int .u32 0, .int .u32 0, .int .u32 0]) := by kernel_rfl
theorem tk107 : tk Tryd.prog 107 = .agg := by kernel_rfl
theorem tI107 : tI Tryd.prog 107 = some (3, true) := by kernel_rfl
theorem zI107 : zI Tryd.prog 107 = some (.agg [.int .u32 0, .int .u32 0, .int .u32 0]) := by kernel_rfl
theorem fI107_0 : fI Tryd.prog 107 0 = some (0, 1, false) := by kernel_rfl
theorem fI107_1 : fI Tryd.prog 107 1 = some (1, 1, false) := by kernel_rfl
theorem fI107_2 : fI Tryd.prog 107 2 = some (2, 1, false) := by kernel_rfl
theorem bI107 : bI Tryd.prog 107 = some ([(0, 1), (1, 1), (2, 1)], [.int .u32 0, .int .u32 0, .int .u32 0]) := by kernel_rfl
theorem tk109 : tk Tryd.prog 109 = .ptr := by kernel_rfl
theorem tI109 : tI Tryd.prog 109 = some (1, false) := by kernel_rfl
theorem zI109 : zI Tryd.prog 109 = some (.nilp) := by kernel_rfl
theorem tk112 : tk Tryd.prog 112 = .ptr := by kernel_rfl
theorem tI112 : tI Tryd.prog 112 = some (1, false) := by kernel_rfl
theorem zI112 : zI Tryd.prog 112 = some (.nilp) := by kernel_rfl
theorem tk113 : tk Tryd.prog 113 = .ptr := by kernel_rfl
theorem tI113 : tI Tryd.prog 113 = some (1, false) := by kernel_rfl
theorem zI113 : zI Tryd.prog 113 = some (.nilp) := by kernel_rfl
theorem tk115 : tk Tryd.prog 115 = .agg := by kernel_rfl
theorem tI115 : tI Tryd.prog 115 = some (4, true) := by kernel_rfl
theorem zI115 : zI Tryd.prog 115 = some (.agg [.nilp, .nilp, .nilp, .str []]) := by kernel_rfl
theorem fI115_0 : fI Tryd.prog 115 0 = some (0, 1, false) := by kernel_rfl
theorem fI115_1 : fI Tryd.prog 115 1 = some (1, 1, false) := by kernel_rfl
theorem fI115_2 : fI Tryd.prog 115 2 = some (2, 1, false) := by kernel_rfl
theorem fI115_3 : fI Tryd.prog 115 3 = some (3, 1, false) := by kernel_rfl
theorem bI115 : bI Tryd.prog 115 = some ([(0, 1), (1, 1), (2, 1), (3, 1)], [.nilp, .nilp, .nilp, .str []]) := by kernel_rfl
theorem tk116 : tk Tryd.prog 116 = .agg := by kernel_rfl
theorem tI116 : tI Tryd.prog 116 = some (4, true) := by kernel_rfl
theorem zI116 : zI Tryd.prog 116 = some (.agg [.nilp, .nilp, .nilp, .str []]) := by kernel_rfl
theorem fI116_0 : fI Tryd.prog 116 0 = some (0, 1, false) := by kernel_rfl
theorem fI116_1 : fI Tryd.prog 116 1 = some (1, 1, false) := by kernel_rfl
theorem fI116_2 : fI Tryd.prog 116 2 = some (2, 1, false) := by kernel_rfl
theorem fI116_3 : fI Tryd.prog 116 3 = some (3, 1, false) := by kernel_rfl
theorem bI116 : bI Tryd.prog 116 = some ([(0, 1), (1, 1), (2, 1), (3, 1)], [.nilp, .nilp, .nilp, .str []]) := by kernel_rfl
theorem tk117 : tk Tryd.prog 117 = .agg := by kernel_rfl
theorem tI117 : tI Tryd.prog 117 = some (0, true) := by kernel_rfl
theorem zI117 : zI Tryd.prog 117 = some (.agg []) := by kernel_rfl
theorem aI117 : aI Tryd.prog 117 = some (0, 1, false) := by kernel_rfl
theorem tk118 : tk Tryd.prog 118 = .agg := by kernel_rfl
theorem tI118 : tI Tryd.prog 118 = some (0, true) := by kernel_rfl
theorem zI118 : zI Tryd.prog 118 = some (.agg []) := by kernel_rfl
theorem bI118 : bI Tryd.prog 118 = some ([(0, 0)], []) := by kernel_rfl
theorem tk119 : tk Tryd.prog 119 = .agg := by kernel_rfl
theorem tI119 : tI Tryd.prog 119 = some (0, true) := by kernel_rfl
theorem zI119 : zI Tryd.prog 119 = some (.agg []) := by kernel_rfl
theorem bI119 : bI Tryd.prog 119 = some ([(0, 0)], []) := by kernel_rfl
theorem tk121 : tk Tryd.prog 121 = .int .u8 := by kernel_rfl
theorem tI121 : tI Tryd.prog 121 = some (1, false) := by kernel_rfl
theorem un121 : (∃ d, Tryd.prog.underlying 121 = some d) = True := eq_true ⟨_, tk_int tk121⟩
theorem zI121 : zI Tryd.prog 121 = some (.int .u8 0) := by kernel_rfl
theorem tk122 : tk Tryd.prog 122 = .int .u8 := by kernel_rfl
theorem tI122 : tI Tryd.prog 122 = some (1, false) := by kernel_rfl
theorem un122 : (∃ d, Tryd.prog.underlying 122 = some d) = True := eq_true ⟨_, tk_int tk122⟩
theorem zI122 : zI Tryd.prog 122 = some (.int .u8 0) := by kernel_rfl
theorem tk124 : tk Tryd.prog 124 = .ptr := by kernel_rfl
theorem tI124 : tI Tryd.prog 124 = some (1, false) := by kernel_rfl
theorem zI124 : zI Tryd.prog 124 = some (.nilp) := by kernel_rfl
theorem tk125 : tk Tryd.prog 125 = .int .i32 := by kernel_rfl
theorem tI125 : tI Tryd.prog 125 = some (1, false) := by kernel_rfl
theorem un125 : (∃ d, Tryd.prog.underlying 125 = some d) = True := eq_true ⟨_, tk_int tk125⟩
theorem zI125 : zI Tryd.prog 125 = some (.int .i32 0) := by kernel_rfl
theorem tk126 : tk Tryd.prog 126 = .int .i32 := by kernel_rfl
theorem tI126 : tI Tryd.prog 126 = some (1, false) := by kernel_rfl
theorem un126 : (∃ d, Tryd.prog.underlying 126 = some d) = True := eq_true ⟨_, tk_int tk126⟩
theorem zI126 : zI Tryd.prog 126 = some (.int .i32 0) := by kernel_rfl
theorem tk127 : tk Tryd.prog 127 = .agg := by kernel_rfl
theorem tI127 : tI Tryd.prog 127 = some (11, true) := by kernel_rfl
theorem zI127 : zI Tryd.prog 127 = some (.agg [.int .u64 0, .int .u64 0, .int .u32 0, .int .u8 0, .int .u8 0, .int .u8 0, .int .u8 0, .nilf, .nilp, .int .i32 0, .int .i32 0]) := by kernel_rfl
theorem fI127_0 : fI Tryd.prog 127 0 = some (0, 1, false) := by kernel_rfl
theorem fI127_1 : fI Tryd.prog 127 1 = some (1, 1, false) := by kernel_rfl
theorem fI127_2 : fI Tryd.prog 127 2 = some (2, 1, false) := by kernel_rfl
theorem fI127_3 : fI Tryd.prog 127 3 = some (3, 1, false) := by kernel_rfl
theorem fI127_4 : fI Tryd.prog 127 4 = some (4, 1, false) := by kernel_rfl
theorem fI127_5 : fI Tryd.prog 127 5 = some (5, 1, false) := by kernel_rfl
theorem fI127_6 : fI Tryd.prog 127 6 = some (6, 1, false) := by kernel_rfl
theorem fI127_7 : fI Tryd.prog 127 7 = some (7, 1, false) := by kernel_rfl
theorem fI127_8 : fI Tryd.prog 127 8 = some (8, 1, false) := by kernel_rfl
theorem fI127_9 : fI Tryd.prog 127 9 = some (9, 1, false) := by kernel_rfl
theorem fI127_10 : fI Tryd.prog 127 10 = some (10, 1, false) := by kernel_rfl
theorem bI127 : bI Tryd.prog 127 = some ([(0, 1), (1, 1), (2, 1), (3, 1), (4, 1), (5, 1), (6, 1), (7, 1), (8, 1), (9, 1), (10, 1)], [.int .u64 0, .int .u64 0, .int .u32 0, .int .u8 0, .int .u8 0, .int .u8 0, .int .u8 0, .nilf, .nilp, .int .i32 0, .int .i32 0]) := by kernel_rfl
theorem tk128 : tk Tryd.prog 128 = .agg := by kernel_rfl
theorem tI128 : tI Tryd.prog 128 = some (11, true) := by kernel_rfl
theorem zI128 : zI Tryd.prog 128 = some (.agg [.int .u64 0, .int .u64 0, .int .u32 0, .int .u8 0, .int .u8 0, .int .u8 0, .int .u8 0, .nilf, .nilp, .int .i32 0, .int .i32 0]) := by kernel_rfl
theorem fI128_0 : fI Tryd.prog 128 0 = some (0, 1, false) := by kernel_rfl
theorem fI128_1 : fI Tryd.prog 128 1 = some (1, 1, false) := by kernel_rfl
theorem fI128_2 : fI Tryd.prog 128 2 = some (2, 1, false) := by kernel_rfl
theorem fI128_3 : fI Tryd.prog 128 3 = some (3, 1, false) := by kernel_rfl
theorem fI128_4 : fI Tryd.prog 128 4 = some (4, 1, false) := by kernel_rfl
theorem fI128_5 : fI Tryd.prog 128 5 = some (5, 1, false) := by kernel_rfl
theorem fI128_6 : fI Tryd.prog 128 6 = some (6, 1, false) := by kernel_rfl
theorem fI128_7 : fI Tryd.prog 128 7 = some (7, 1, false) := by kernel_rfl
theorem fI128_8 : fI Tryd.prog 128 8 = some (8, 1, false) := by kernel_rfl
theorem fI128_9 : fI Tryd.prog 128 9 = some (9, 1, false) := by kernel_rfl
theorem fI128_10 : fI Tryd.prog 128 10 = some (10, 1, false) := by kernel_rfl
theorem bI128 : bI Tryd.prog 128 = some ([(0, 1), (1, 1), (2, 1), (3, 1), (4, 1), (5, 1), (6, 1), (7, 1), (8, 1), (9, 1), (10, 1)], [.int .u64 0, .int .u64 0, .int .u32 0, .int .u8 0, .int .u8 0, .int .u8 0, .int .u8 0, .nilf, .nilp, .int .i32 0, .int .i32 0]) := by kernel_rfl
theorem en3 : entersB Tryd.prog 3 = true := by kernel_rfl
theorem en4 : entersB Tryd.prog 4 = true := by kernel_rfl
theorem en5 : entersB Tryd.prog 5 = true := by kernel_rfl
theorem en6 : entersB Tryd.prog 6 = true := by kernel_rfl
theorem en7 : entersB Tryd.prog 7 = true := by kernel_rfl
theorem en8 : entersB Tryd.prog 8 = true := by kernel_rfl
theorem en9 : entersB Tryd.prog 9 = true := by kernel_rfl
theorem en10 : entersB Tryd.prog 10 = true := by kernel_rfl
theorem en11 : entersB Tryd.prog 11 = true := by kernel_rfl
theorem en12 : entersB Tryd.prog 12 = true := by kernel_rfl
theorem en13 : entersB Tryd.prog 13 = true := by kernel_rfl
theorem en14 : entersB Tryd.prog 14 = true := by kernel_rfl
theorem en15 : entersB Tryd.prog 15 = true := by kernel_rfl
theorem en16 : entersB Tryd.prog 16 = true := by kernel_rfl
theorem en17 : entersB Tryd.prog 17 = true := by kernel_rfl
theorem en18 : entersB Tryd.prog 18 = true := by kernel_rfl
theorem en19 : entersB Tryd.prog 19 = true := by kernel_rfl
theorem en20 : entersB Tryd.prog 20 = true := by kernel_rfl
theorem en21 : entersB Tryd.prog 21 = true := by kernel_rfl
theorem en22 : entersB Tryd.prog 22 = true := by kernel_rfl
theorem en23 : entersB Tryd.prog 23 = true := by kernel_rfl
theorem en24 : entersB Tryd.prog 24 = true := by kernel_rfl
theorem en25 : entersB Tryd.prog 25 = true := by kernel_rfl
theorem en26 : entersB Tryd.prog 26 = true := by kernel_rfl
theorem en27 : entersB Tryd.prog 27 = true := by kernel_rfl
theorem en28 : entersB Tryd.prog 28 = true := by kernel_rfl
theorem en29 : entersB Tryd.prog 29 = true := by kernel_rfl
theorem en30 : entersB Tryd.prog 30 = true := by kernel_rfl
theorem en31 : entersB Tryd.prog 31 = true := by kernel_rfl
theorem en32 : entersB Tryd.prog 32 = true := by kernel_rfl
theorem en33 : entersB Tryd.prog 33 = true := by kernel_rfl
theorem en34 : entersB Tryd.prog 34 = true := by kernel_rfl
theorem en35 : entersB Tryd.prog 35 = true := by kernel_rfl
theorem en36 : entersB Tryd.prog 36 = true := by kernel_rfl
theorem en37 : entersB Tryd.prog 37 = true := by kernel_rfl
theorem en38 : entersB Tryd.prog 38 = true := by kernel_rfl
theorem en39 : entersB Tryd.prog 39 = true := by kernel_rfl
theorem en40 : entersB Tryd.prog 40 = true := by kernel_rfl
theorem en41 : entersB Tryd.prog 41 = true := by kernel_rfl
theorem en42 : entersB Tryd.prog 42 = true := by kernel_rfl
theorem en43 : entersB Tryd.prog 43 = true := by kernel_rfl
theorem en44 : entersB Tryd.prog 44 = true := by kernel_rfl
theorem en45 : entersB Tryd.prog 45 = true := by kernel_rfl
theorem en46 : entersB Tryd.prog 46 = true := by kernel_rfl
theorem en47 : entersB Tryd.prog 47 = true := by kernel_rfl
theorem en48 : entersB Tryd.prog 48 = true := by kernel_rfl
theorem en49 : entersB Tryd.prog 49 = true := by kernel_rfl
theorem en50 : entersB Tryd.prog 50 = true := by kernel_rfl
theorem en51 : entersB Tryd.prog 51 = true := by kernel_rfl
theorem en52 : entersB Tryd.prog 52 = true := by kernel_rfl
theorem en53 : entersB Tryd.prog 53 = true := by kernel_rfl
theorem en54 : entersB Tryd.prog 54 = true := by kernel_rfl
theorem en55 : entersB Tryd.prog 55 = true := by kernel_rfl
theorem en56 : entersB Tryd.prog 56 = true := by kernel_rfl
theorem en57 : entersB Tryd.prog 57 = true := by kernel_rfl
theorem en58 : entersB Tryd.prog 58 = true := by kernel_rfl
theorem en59 : entersB Tryd.prog 59 = true := by kernel_rfl
theorem en60 : entersB Tryd.prog 60 = true := by kernel_rfl
theorem en61 : entersB Tryd.prog 61 = true := by kernel_rfl
theorem en62 : entersB Tryd.prog 62 = true := by kernel_rfl
theorem en63 : entersB Tryd.prog 63 = true := by kernel_rfl
theorem en64 : entersB Tryd.prog 64 = true := by kernel_rfl
theorem en65 : entersB Tryd.prog 65 = true := by kernel_rfl
theorem en66 : entersB Tryd.prog 66 = true := by kernel_rfl
theorem en67 : entersB Tryd.prog 67 = true := by kernel_rfl
theorem en68 : entersB Tryd.prog 68 = true := by kernel_rfl
theorem en70 : entersB Tryd.prog 70 = true := by kernel_rfl
theorem en71 : entersB Tryd.prog 71 = true := by kernel_rfl
theorem en72 : entersB Tryd.prog 72 = true := by kernel_rfl
theorem en73 : entersB Tryd.prog 73 = true := by kernel_rfl
theorem en74 : entersB Tryd.prog 74 = true := by kernel_rfl
theorem en75 : entersB Tryd.prog 75 = true := by kernel_rfl
theorem en76 : entersB Tryd.prog 76 = true := by kernel_rfl
theorem en77 : entersB Tryd.prog 77 = true := by kernel_rfl
theorem en78 : entersB Tryd.prog 78 = true := by kernel_rfl
theorem en79 : entersB Tryd.prog 79 = true := by kernel_rfl
attribute [go_sem] tk2 tI2 un2 zI2 tk3 tI3 un3 zI3 tk4 tI4 zI4 tk5 tI5 un5 zI5 tk6 tI6 un6 zI6 tk7 tI7 zI7 fI7_0 fI7_1 fI7_2 fI7_3 bI7 tk8 tI8 zI8 fI8_0 fI8_1 fI8_2 fI8_3 bI8 tk9 tI9 un9 zI9 tk10 tI10 un10 zI10 tk11 tI11 un11 zI11 tk12 tI12 un12 zI12 tk13 tI13 zI13 fI13_0 fI13_1 bI13 tk14 tI14 zI14 fI14_0 fI14_1 bI14 tk15 tI15 zI15 tk16 tI16 zI16 tk17 tI17 zI17 tk18 tI18 zI18 fI18_0 bI18 tk19 tI19 zI19 fI19_0 bI19 tk20 tI20 zI20 tk21 tI21 un21 zI21 tk22 tI22 un22 zI22 eI22 tk23 tI23 zI23 fI23_0 fI23_1 bI23 tk24 tI24 zI24 fI24_0 fI24_1 bI24 tk32 tI32 un32 zI32 eI32 tk33 tI33 zI33 fI33_0 fI33_1 fI33_2 bI33 tk34 tI34 zI34 fI34_0 fI34_1 fI34_2 bI34 tk35 tI35 un35 zI35 tk57 tI57 un57 zI57 eI57 tk61 tI61 un61 zI61 tk64 tI64 aI64 tk67 tI67 aI67 tk68 tI68 aI68 tk74 tI74 un74 zI74 tk81 tI81 un81 zI81 tk83 tI83 un83 zI83 tk84 tI84 un84 zI84 eI84 tk85 tI85 zI85 fI85_0 fI85_1 bI85 tk86 tI86 zI86 fI86_0 fI86_1 bI86 tk88 tI88 zI88 tk91 tI91 zI91 tk92 tI92 un92 zI92 tk96 tI96 zI96 tk98 tI98 un98 zI98 eI98 tk99 tI99 un99 zI99 eI99 tk100 tI100 zI100 fI100_0 fI100_1 fI100_2 bI100 tk101 tI101 zI101 fI101_0 fI101_1 fI101_2 bI101 tk102 tI102 un102 zI102 tk103 tI103 zI103 fI103_0 fI103_1 fI103_2 bI103 tk104 tI104 zI104 fI104_0 fI104_1 fI104_2 bI104 tk106 tI106 zI106 fI106_0 fI106_1 fI106_2 bI106 tk107 tI107 zI107 fI107_0 fI107_1 fI107_2 bI107 tk109 tI109 zI109 tk112 tI112 zI112 tk113 tI113 zI113 tk115 tI115 zI115 fI115_0 fI115_1 fI115_2 fI115_3 bI115 tk116 tI116 zI116 fI116_0 fI116_1 fI116_2 fI116_3 bI116 tk117 tI117 zI117 aI117 tk118 tI118 zI118 bI118 tk119 tI119 zI119 bI119 tk121 tI121 un121 zI121 tk122 tI122 un122 zI122 tk124 tI124 zI124 tk125 tI125 un125 zI125 tk126 tI126 un126 zI126 tk127 tI127 zI127 fI127_0 fI127_1 fI127_2 fI127_3 fI127_4 fI127_5 fI127_6 fI127_7 fI127_8 fI127_9 fI127_10 bI127 tk128 tI128 zI128 fI128_0 fI128_1 fI128_2 fI128_3 fI128_4 fI128_5 fI128_6 fI128_7 fI128_8 fI128_9 fI128_10 bI128 en3 en4 en5 en6 en7 en8 en9 en10 en11 en12 en13 en14 en15 en16 en17 en18 en19 en20 en21 en22 en23 en24 en25 en26 en27 en28 en29 en30 en31 en32 en33 en34 en35 en36 en37 en38 en39 en40 en41 en42 en43 en44 en45 en46 en47 en48 en49 en50 en51 en52 en53 en54 en55 en56 en57 en58 en59 en60 en61 en62 en63 en64 en65 en66 en67 en68 en70 en71 en72 en73 en74 en75 en76 en77 en78 en79
end Go.Proofs.YthgafblmefjkdaaDoorT
