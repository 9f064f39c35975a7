/- Facts on the types and functions of the translation, written by a program of our own. -/
import Derived.Test.YtiibjaommelkkaaEng10
import Derived.Test.YtiibjaommelkkaaProg
set_option maxRecDepth 100000
namespace Go.Proofs.Ytiibjaommelkkaa.Fx
open Go Go.Eng
theorem t1_k : known Go.Proofs.Try.prog 1 = true := by kernel_rfl
theorem t1_a : aggT Go.Proofs.Try.prog 1 = false := by kernel_rfl
theorem t1_if : isIfaceT Go.Proofs.Try.prog 1 = false := by kernel_rfl
theorem t1_fn : isFuncT Go.Proofs.Try.prog 1 = true := by kernel_rfl
theorem t2_k : known Go.Proofs.Try.prog 2 = true := by kernel_rfl
theorem t2_a : aggT Go.Proofs.Try.prog 2 = false := by kernel_rfl
theorem t2_if : isIfaceT Go.Proofs.Try.prog 2 = false := by kernel_rfl
theorem t2_i : intT Go.Proofs.Try.prog 2 = some .i64 := by kernel_rfl
theorem t3_k : known Go.Proofs.Try.prog 3 = true := by kernel_rfl
theorem t3_a : aggT Go.Proofs.Try.prog 3 = false := by kernel_rfl
theorem t3_if : isIfaceT Go.Proofs.Try.prog 3 = false := by kernel_rfl
theorem t3_i : intT Go.Proofs.Try.prog 3 = some .i64 := by kernel_rfl
theorem t4_k : known Go.Proofs.Try.prog 4 = true := by kernel_rfl
theorem t4_a : aggT Go.Proofs.Try.prog 4 = false := by kernel_rfl
theorem t4_if : isIfaceT Go.Proofs.Try.prog 4 = false := by kernel_rfl
theorem t4_b : isBoolT Go.Proofs.Try.prog 4 = true := by kernel_rfl
theorem t5_k : known Go.Proofs.Try.prog 5 = true := by kernel_rfl
theorem t5_a : aggT Go.Proofs.Try.prog 5 = false := by kernel_rfl
theorem t5_if : isIfaceT Go.Proofs.Try.prog 5 = false := by kernel_rfl
theorem t5_i : intT Go.Proofs.Try.prog 5 = some .u8 := by kernel_rfl
theorem t9_k : known Go.Proofs.Try.prog 9 = true := by kernel_rfl
theorem t9_a : aggT Go.Proofs.Try.prog 9 = false := by kernel_rfl
theorem t9_if : isIfaceT Go.Proofs.Try.prog 9 = false := by kernel_rfl
theorem t9_s : isStrT Go.Proofs.Try.prog 9 = true := by kernel_rfl
theorem t21_k : known Go.Proofs.Try.prog 21 = true := by kernel_rfl
theorem t21_a : aggT Go.Proofs.Try.prog 21 = false := by kernel_rfl
theorem t21_if : isIfaceT Go.Proofs.Try.prog 21 = false := by kernel_rfl
theorem t21_i : intT Go.Proofs.Try.prog 21 = some .i32 := by kernel_rfl
theorem t22_k : known Go.Proofs.Try.prog 22 = true := by kernel_rfl
theorem t22_a : aggT Go.Proofs.Try.prog 22 = false := by kernel_rfl
theorem t22_if : isIfaceT Go.Proofs.Try.prog 22 = false := by kernel_rfl
theorem t22_e : elemT Go.Proofs.Try.prog 22 = some 5 := by kernel_rfl
theorem t22_s : isStrT Go.Proofs.Try.prog 22 = false := by kernel_rfl
theorem t24_k : known Go.Proofs.Try.prog 24 = true := by kernel_rfl
theorem t24_a : aggT Go.Proofs.Try.prog 24 = false := by kernel_rfl
theorem t24_if : isIfaceT Go.Proofs.Try.prog 24 = false := by kernel_rfl
theorem t24_i : intT Go.Proofs.Try.prog 24 = some .i64 := by kernel_rfl
theorem t30_k : known Go.Proofs.Try.prog 30 = true := by kernel_rfl
theorem t30_a : aggT Go.Proofs.Try.prog 30 = false := by kernel_rfl
theorem t30_if : isIfaceT Go.Proofs.Try.prog 30 = false := by kernel_rfl
theorem t30_i : intT Go.Proofs.Try.prog 30 = some .u64 := by kernel_rfl
theorem t34_k : known Go.Proofs.Try.prog 34 = true := by kernel_rfl
theorem t34_a : aggT Go.Proofs.Try.prog 34 = false := by kernel_rfl
theorem t34_if : isIfaceT Go.Proofs.Try.prog 34 = false := by kernel_rfl
theorem t34_i : intT Go.Proofs.Try.prog 34 = some .u32 := by kernel_rfl
theorem t39_k : known Go.Proofs.Try.prog 39 = true := by kernel_rfl
theorem t39_a : aggT Go.Proofs.Try.prog 39 = false := by kernel_rfl
theorem t39_if : isIfaceT Go.Proofs.Try.prog 39 = false := by kernel_rfl
theorem t39_i : intT Go.Proofs.Try.prog 39 = some .u16 := by kernel_rfl
theorem t45_k : known Go.Proofs.Try.prog 45 = true := by kernel_rfl
theorem t45_a : aggT Go.Proofs.Try.prog 45 = true := by kernel_rfl
theorem t45_if : isIfaceT Go.Proofs.Try.prog 45 = false := by kernel_rfl
theorem t45_ea : eqAggT Go.Proofs.Try.prog 45 = true := by kernel_rfl
theorem t45_ar : arrT Go.Proofs.Try.prog 45 = some (32, 5) := by kernel_rfl
theorem t45_pl : placesT Go.Proofs.Try.prog 45 = none := by kernel_rfl
theorem t49_k : known Go.Proofs.Try.prog 49 = true := by kernel_rfl
theorem t49_a : aggT Go.Proofs.Try.prog 49 = false := by kernel_rfl
theorem t49_if : isIfaceT Go.Proofs.Try.prog 49 = false := by kernel_rfl
theorem t49_e : elemT Go.Proofs.Try.prog 49 = some 22 := by kernel_rfl
theorem t49_s : isStrT Go.Proofs.Try.prog 49 = false := by kernel_rfl
theorem t50_k : known Go.Proofs.Try.prog 50 = true := by kernel_rfl
theorem t50_a : aggT Go.Proofs.Try.prog 50 = false := by kernel_rfl
theorem t50_if : isIfaceT Go.Proofs.Try.prog 50 = false := by kernel_rfl
theorem t50_p : isPtrT Go.Proofs.Try.prog 50 = true := by kernel_rfl
theorem t55_k : known Go.Proofs.Try.prog 55 = true := by kernel_rfl
theorem t55_a : aggT Go.Proofs.Try.prog 55 = true := by kernel_rfl
theorem t55_if : isIfaceT Go.Proofs.Try.prog 55 = false := by kernel_rfl
theorem t55_ea : eqAggT Go.Proofs.Try.prog 55 = true := by kernel_rfl
theorem t56_k : known Go.Proofs.Try.prog 56 = true := by kernel_rfl
theorem t56_a : aggT Go.Proofs.Try.prog 56 = true := by kernel_rfl
theorem t56_if : isIfaceT Go.Proofs.Try.prog 56 = false := by kernel_rfl
theorem t56_ea : eqAggT Go.Proofs.Try.prog 56 = true := by kernel_rfl
theorem t68_k : known Go.Proofs.Try.prog 68 = true := by kernel_rfl
theorem t68_a : aggT Go.Proofs.Try.prog 68 = false := by kernel_rfl
theorem t68_if : isIfaceT Go.Proofs.Try.prog 68 = false := by kernel_rfl
theorem t68_e : elemT Go.Proofs.Try.prog 68 = some 56 := by kernel_rfl
theorem t68_s : isStrT Go.Proofs.Try.prog 68 = false := by kernel_rfl
theorem t74_k : known Go.Proofs.Try.prog 74 = true := by kernel_rfl
theorem t74_a : aggT Go.Proofs.Try.prog 74 = false := by kernel_rfl
theorem t74_if : isIfaceT Go.Proofs.Try.prog 74 = false := by kernel_rfl
theorem t74_fn : isFuncT Go.Proofs.Try.prog 74 = true := by kernel_rfl
theorem t75_k : known Go.Proofs.Try.prog 75 = true := by kernel_rfl
theorem t75_a : aggT Go.Proofs.Try.prog 75 = true := by kernel_rfl
theorem t75_if : isIfaceT Go.Proofs.Try.prog 75 = false := by kernel_rfl
theorem t75_ea : eqAggT Go.Proofs.Try.prog 75 = true := by kernel_rfl
theorem t75_ar : arrT Go.Proofs.Try.prog 75 = some (256, 30) := by kernel_rfl
theorem t75_pl : placesT Go.Proofs.Try.prog 75 = none := by kernel_rfl
theorem t77_k : known Go.Proofs.Try.prog 77 = true := by kernel_rfl
theorem t77_a : aggT Go.Proofs.Try.prog 77 = false := by kernel_rfl
theorem t77_if : isIfaceT Go.Proofs.Try.prog 77 = false := by kernel_rfl
theorem t77_i : intT Go.Proofs.Try.prog 77 = some .u64 := by kernel_rfl
theorem t78_k : known Go.Proofs.Try.prog 78 = true := by kernel_rfl
theorem t78_a : aggT Go.Proofs.Try.prog 78 = true := by kernel_rfl
theorem t78_if : isIfaceT Go.Proofs.Try.prog 78 = false := by kernel_rfl
theorem t78_ea : eqAggT Go.Proofs.Try.prog 78 = true := by kernel_rfl
theorem t78_ar : arrT Go.Proofs.Try.prog 78 = some (256, 34) := by kernel_rfl
theorem t78_pl : placesT Go.Proofs.Try.prog 78 = none := by kernel_rfl
theorem t79_k : known Go.Proofs.Try.prog 79 = true := by kernel_rfl
theorem t79_a : aggT Go.Proofs.Try.prog 79 = true := by kernel_rfl
theorem t79_if : isIfaceT Go.Proofs.Try.prog 79 = false := by kernel_rfl
theorem t79_ea : eqAggT Go.Proofs.Try.prog 79 = true := by kernel_rfl
theorem t79_ar : arrT Go.Proofs.Try.prog 79 = some (4, 78) := by kernel_rfl
theorem t79_pl : placesT Go.Proofs.Try.prog 79 = none := by kernel_rfl
theorem t85_k : known Go.Proofs.Try.prog 85 = true := by kernel_rfl
theorem t85_a : aggT Go.Proofs.Try.prog 85 = false := by kernel_rfl
theorem t85_if : isIfaceT Go.Proofs.Try.prog 85 = false := by kernel_rfl
theorem t85_e : elemT Go.Proofs.Try.prog 85 = some 34 := by kernel_rfl
theorem t85_s : isStrT Go.Proofs.Try.prog 85 = false := by kernel_rfl
theorem t90_k : known Go.Proofs.Try.prog 90 = true := by kernel_rfl
theorem t90_a : aggT Go.Proofs.Try.prog 90 = true := by kernel_rfl
theorem t90_if : isIfaceT Go.Proofs.Try.prog 90 = false := by kernel_rfl
theorem t90_ea : eqAggT Go.Proofs.Try.prog 90 = true := by kernel_rfl
theorem t90_ar : arrT Go.Proofs.Try.prog 90 = some (8, 34) := by kernel_rfl
theorem t90_pl : placesT Go.Proofs.Try.prog 90 = none := by kernel_rfl
theorem t92_k : known Go.Proofs.Try.prog 92 = true := by kernel_rfl
theorem t92_a : aggT Go.Proofs.Try.prog 92 = true := by kernel_rfl
theorem t92_if : isIfaceT Go.Proofs.Try.prog 92 = false := by kernel_rfl
theorem t93_k : known Go.Proofs.Try.prog 93 = true := by kernel_rfl
theorem t93_a : aggT Go.Proofs.Try.prog 93 = true := by kernel_rfl
theorem t93_if : isIfaceT Go.Proofs.Try.prog 93 = false := by kernel_rfl
theorem t94_k : known Go.Proofs.Try.prog 94 = true := by kernel_rfl
theorem t94_a : aggT Go.Proofs.Try.prog 94 = false := by kernel_rfl
theorem t94_if : isIfaceT Go.Proofs.Try.prog 94 = false := by kernel_rfl
theorem t94_fn : isFuncT Go.Proofs.Try.prog 94 = true := by kernel_rfl
theorem t97_k : known Go.Proofs.Try.prog 97 = true := by kernel_rfl
theorem t97_a : aggT Go.Proofs.Try.prog 97 = true := by kernel_rfl
theorem t97_if : isIfaceT Go.Proofs.Try.prog 97 = false := by kernel_rfl
theorem t97_ea : eqAggT Go.Proofs.Try.prog 97 = true := by kernel_rfl
theorem t97_ar : arrT Go.Proofs.Try.prog 97 = some (256, 5) := by kernel_rfl
theorem t97_pl : placesT Go.Proofs.Try.prog 97 = none := by kernel_rfl
theorem t98_k : known Go.Proofs.Try.prog 98 = true := by kernel_rfl
theorem t98_a : aggT Go.Proofs.Try.prog 98 = true := by kernel_rfl
theorem t98_if : isIfaceT Go.Proofs.Try.prog 98 = false := by kernel_rfl
theorem t98_ea : eqAggT Go.Proofs.Try.prog 98 = true := by kernel_rfl
theorem t98_ar : arrT Go.Proofs.Try.prog 98 = some (256, 5) := by kernel_rfl
theorem t98_pl : placesT Go.Proofs.Try.prog 98 = none := by kernel_rfl
theorem t100_k : known Go.Proofs.Try.prog 100 = true := by kernel_rfl
theorem t100_a : aggT Go.Proofs.Try.prog 100 = false := by kernel_rfl
theorem t100_if : isIfaceT Go.Proofs.Try.prog 100 = false := by kernel_rfl
theorem t100_fn : isFuncT Go.Proofs.Try.prog 100 = true := by kernel_rfl
theorem t101_k : known Go.Proofs.Try.prog 101 = true := by kernel_rfl
theorem t101_a : aggT Go.Proofs.Try.prog 101 = false := by kernel_rfl
theorem t101_if : isIfaceT Go.Proofs.Try.prog 101 = false := by kernel_rfl
theorem t101_fn : isFuncT Go.Proofs.Try.prog 101 = true := by kernel_rfl
theorem t102_k : known Go.Proofs.Try.prog 102 = true := by kernel_rfl
theorem t102_a : aggT Go.Proofs.Try.prog 102 = true := by kernel_rfl
theorem t102_if : isIfaceT Go.Proofs.Try.prog 102 = false := by kernel_rfl
theorem t103_k : known Go.Proofs.Try.prog 103 = true := by kernel_rfl
theorem t103_a : aggT Go.Proofs.Try.prog 103 = true := by kernel_rfl
theorem t103_if : isIfaceT Go.Proofs.Try.prog 103 = false := by kernel_rfl
theorem t105_k : known Go.Proofs.Try.prog 105 = true := by kernel_rfl
theorem t105_a : aggT Go.Proofs.Try.prog 105 = false := by kernel_rfl
theorem t105_if : isIfaceT Go.Proofs.Try.prog 105 = false := by kernel_rfl
theorem t105_mp : mapT Go.Proofs.Try.prog 105 = some (.i64, 103) := by kernel_rfl
theorem t108_k : known Go.Proofs.Try.prog 108 = true := by kernel_rfl
theorem t108_a : aggT Go.Proofs.Try.prog 108 = false := by kernel_rfl
theorem t108_if : isIfaceT Go.Proofs.Try.prog 108 = false := by kernel_rfl
theorem t108_fn : isFuncT Go.Proofs.Try.prog 108 = true := by kernel_rfl
theorem t111_k : known Go.Proofs.Try.prog 111 = true := by kernel_rfl
theorem t111_a : aggT Go.Proofs.Try.prog 111 = false := by kernel_rfl
theorem t111_if : isIfaceT Go.Proofs.Try.prog 111 = false := by kernel_rfl
theorem t111_e : elemT Go.Proofs.Try.prog 111 = some 30 := by kernel_rfl
theorem t111_s : isStrT Go.Proofs.Try.prog 111 = false := by kernel_rfl
theorem t114_k : known Go.Proofs.Try.prog 114 = true := by kernel_rfl
theorem t114_a : aggT Go.Proofs.Try.prog 114 = true := by kernel_rfl
theorem t114_if : isIfaceT Go.Proofs.Try.prog 114 = false := by kernel_rfl
theorem t114_ea : eqAggT Go.Proofs.Try.prog 114 = true := by kernel_rfl
theorem t114_ar : arrT Go.Proofs.Try.prog 114 = some (64, 34) := by kernel_rfl
theorem t114_pl : placesT Go.Proofs.Try.prog 114 = none := by kernel_rfl
theorem t118_k : known Go.Proofs.Try.prog 118 = true := by kernel_rfl
theorem t118_a : aggT Go.Proofs.Try.prog 118 = false := by kernel_rfl
theorem t118_if : isIfaceT Go.Proofs.Try.prog 118 = false := by kernel_rfl
theorem t118_fn : isFuncT Go.Proofs.Try.prog 118 = true := by kernel_rfl
theorem t1_sz : sizeT Go.Proofs.Try.prog 1 = some 1 := by kernel_rfl
theorem t1_by : bytesT Go.Proofs.Try.prog 1 = some 8 := by kernel_rfl
theorem t1_z : zav Go.Proofs.Try.prog 1 = some [.nilf] := by kernel_rfl
theorem t1_d : dflt Go.Proofs.Try.prog 1 = .nilf := by kernel_rfl
theorem t1_zv : zval Go.Proofs.Try.prog 1 = some (.nilf) := by kernel_rfl
theorem t2_sz : sizeT Go.Proofs.Try.prog 2 = some 1 := by kernel_rfl
theorem t2_by : bytesT Go.Proofs.Try.prog 2 = some 8 := by kernel_rfl
theorem t2_z : zav Go.Proofs.Try.prog 2 = some [.int .i64 0] := by kernel_rfl
theorem t2_d : dflt Go.Proofs.Try.prog 2 = .int .i64 0 := by kernel_rfl
theorem t2_zv : zval Go.Proofs.Try.prog 2 = some (.int .i64 0) := by kernel_rfl
theorem t3_sz : sizeT Go.Proofs.Try.prog 3 = some 1 := by kernel_rfl
theorem t3_by : bytesT Go.Proofs.Try.prog 3 = some 8 := by kernel_rfl
theorem t3_z : zav Go.Proofs.Try.prog 3 = some [.int .i64 0] := by kernel_rfl
theorem t3_d : dflt Go.Proofs.Try.prog 3 = .int .i64 0 := by kernel_rfl
theorem t3_zv : zval Go.Proofs.Try.prog 3 = some (.int .i64 0) := by kernel_rfl
theorem t4_sz : sizeT Go.Proofs.Try.prog 4 = some 1 := by kernel_rfl
theorem t4_by : bytesT Go.Proofs.Try.prog 4 = some 1 := by kernel_rfl
theorem t4_z : zav Go.Proofs.Try.prog 4 = some [.bool false] := by kernel_rfl
theorem t4_d : dflt Go.Proofs.Try.prog 4 = .bool false := by kernel_rfl
theorem t4_zv : zval Go.Proofs.Try.prog 4 = some (.bool false) := by kernel_rfl
theorem t5_sz : sizeT Go.Proofs.Try.prog 5 = some 1 := by kernel_rfl
theorem t5_by : bytesT Go.Proofs.Try.prog 5 = some 1 := by kernel_rfl
theorem t5_z : zav Go.Proofs.Try.prog 5 = some [.int .u8 0] := by kernel_rfl
theorem t5_d : dflt Go.Proofs.Try.prog 5 = .int .u8 0 := by kernel_rfl
theorem t5_zv : zval Go.Proofs.Try.prog 5 = some (.int .u8 0) := by kernel_rfl
theorem t9_sz : sizeT Go.Proofs.Try.prog 9 = some 1 := by kernel_rfl
theorem t9_by : bytesT Go.Proofs.Try.prog 9 = some 16 := by kernel_rfl
theorem t9_z : zav Go.Proofs.Try.prog 9 = some [.str ⟨#[]⟩] := by kernel_rfl
theorem t9_d : dflt Go.Proofs.Try.prog 9 = .str ⟨#[]⟩ := by kernel_rfl
theorem t9_zv : zval Go.Proofs.Try.prog 9 = some (.str ⟨#[]⟩) := by kernel_rfl
theorem t21_sz : sizeT Go.Proofs.Try.prog 21 = some 1 := by kernel_rfl
theorem t21_by : bytesT Go.Proofs.Try.prog 21 = some 4 := by kernel_rfl
theorem t21_z : zav Go.Proofs.Try.prog 21 = some [.int .i32 0] := by kernel_rfl
theorem t21_d : dflt Go.Proofs.Try.prog 21 = .int .i32 0 := by kernel_rfl
theorem t21_zv : zval Go.Proofs.Try.prog 21 = some (.int .i32 0) := by kernel_rfl
theorem t22_sz : sizeT Go.Proofs.Try.prog 22 = some 1 := by kernel_rfl
theorem t22_by : bytesT Go.Proofs.Try.prog 22 = some 24 := by kernel_rfl
theorem t22_z : zav Go.Proofs.Try.prog 22 = some [.nils] := by kernel_rfl
theorem t22_d : dflt Go.Proofs.Try.prog 22 = .nils := by kernel_rfl
theorem t22_zv : zval Go.Proofs.Try.prog 22 = some (.nils) := by kernel_rfl
theorem t24_sz : sizeT Go.Proofs.Try.prog 24 = some 1 := by kernel_rfl
theorem t24_by : bytesT Go.Proofs.Try.prog 24 = some 8 := by kernel_rfl
theorem t24_z : zav Go.Proofs.Try.prog 24 = some [.int .i64 0] := by kernel_rfl
theorem t24_d : dflt Go.Proofs.Try.prog 24 = .int .i64 0 := by kernel_rfl
theorem t24_zv : zval Go.Proofs.Try.prog 24 = some (.int .i64 0) := by kernel_rfl
theorem t30_sz : sizeT Go.Proofs.Try.prog 30 = some 1 := by kernel_rfl
theorem t30_by : bytesT Go.Proofs.Try.prog 30 = some 8 := by kernel_rfl
theorem t30_z : zav Go.Proofs.Try.prog 30 = some [.int .u64 0] := by kernel_rfl
theorem t30_d : dflt Go.Proofs.Try.prog 30 = .int .u64 0 := by kernel_rfl
theorem t30_zv : zval Go.Proofs.Try.prog 30 = some (.int .u64 0) := by kernel_rfl
theorem t34_sz : sizeT Go.Proofs.Try.prog 34 = some 1 := by kernel_rfl
theorem t34_by : bytesT Go.Proofs.Try.prog 34 = some 4 := by kernel_rfl
theorem t34_z : zav Go.Proofs.Try.prog 34 = some [.int .u32 0] := by kernel_rfl
theorem t34_d : dflt Go.Proofs.Try.prog 34 = .int .u32 0 := by kernel_rfl
theorem t34_zv : zval Go.Proofs.Try.prog 34 = some (.int .u32 0) := by kernel_rfl
theorem t39_sz : sizeT Go.Proofs.Try.prog 39 = some 1 := by kernel_rfl
theorem t39_by : bytesT Go.Proofs.Try.prog 39 = some 2 := by kernel_rfl
theorem t39_z : zav Go.Proofs.Try.prog 39 = some [.int .u16 0] := by kernel_rfl
theorem t39_d : dflt Go.Proofs.Try.prog 39 = .int .u16 0 := by kernel_rfl
theorem t39_zv : zval Go.Proofs.Try.prog 39 = some (.int .u16 0) := by kernel_rfl
theorem t45_sz : sizeT Go.Proofs.Try.prog 45 = some 32 := by kernel_rfl
theorem t45_by : bytesT Go.Proofs.Try.prog 45 = some 32 := by kernel_rfl
theorem t45_z : zav Go.Proofs.Try.prog 45 = some (List.replicate 32 (.int .u8 0)) := by kernel_rfl
theorem t45_zv : zval Go.Proofs.Try.prog 45 = some (.agg (List.replicate 32 (.int .u8 0))) := by kernel_rfl
theorem t49_sz : sizeT Go.Proofs.Try.prog 49 = some 1 := by kernel_rfl
theorem t49_by : bytesT Go.Proofs.Try.prog 49 = some 24 := by kernel_rfl
theorem t49_z : zav Go.Proofs.Try.prog 49 = some [.nils] := by kernel_rfl
theorem t49_d : dflt Go.Proofs.Try.prog 49 = .nils := by kernel_rfl
theorem t49_zv : zval Go.Proofs.Try.prog 49 = some (.nils) := by kernel_rfl
theorem t50_sz : sizeT Go.Proofs.Try.prog 50 = some 1 := by kernel_rfl
theorem t50_by : bytesT Go.Proofs.Try.prog 50 = some 8 := by kernel_rfl
theorem t50_z : zav Go.Proofs.Try.prog 50 = some [.nilp] := by kernel_rfl
theorem t50_d : dflt Go.Proofs.Try.prog 50 = .nilp := by kernel_rfl
theorem t50_zv : zval Go.Proofs.Try.prog 50 = some (.nilp) := by kernel_rfl
theorem t55_sz : sizeT Go.Proofs.Try.prog 55 = some 2 := by kernel_rfl
theorem t55_z : zav Go.Proofs.Try.prog 55 = some [.int .i64 0, .int .u32 0] := by kernel_rfl
theorem t55_zv : zval Go.Proofs.Try.prog 55 = some (.agg [.int .i64 0, .int .u32 0]) := by kernel_rfl
theorem t55_f0 : fieldT Go.Proofs.Try.prog 55 0 = some (0, 3) := by kernel_rfl
theorem t55_f1 : fieldT Go.Proofs.Try.prog 55 1 = some (1, 34) := by kernel_rfl
theorem t55_pl : placesT Go.Proofs.Try.prog 55 = some [(0, 1), (1, 1)] := by kernel_rfl
theorem t56_sz : sizeT Go.Proofs.Try.prog 56 = some 2 := by kernel_rfl
theorem t56_z : zav Go.Proofs.Try.prog 56 = some [.int .i64 0, .int .u32 0] := by kernel_rfl
theorem t56_zv : zval Go.Proofs.Try.prog 56 = some (.agg [.int .i64 0, .int .u32 0]) := by kernel_rfl
theorem t56_f0 : fieldT Go.Proofs.Try.prog 56 0 = some (0, 3) := by kernel_rfl
theorem t56_f1 : fieldT Go.Proofs.Try.prog 56 1 = some (1, 34) := by kernel_rfl
theorem t56_pl : placesT Go.Proofs.Try.prog 56 = some [(0, 1), (1, 1)] := by kernel_rfl
theorem t68_sz : sizeT Go.Proofs.Try.prog 68 = some 1 := by kernel_rfl
theorem t68_by : bytesT Go.Proofs.Try.prog 68 = some 24 := by kernel_rfl
theorem t68_z : zav Go.Proofs.Try.prog 68 = some [.nils] := by kernel_rfl
theorem t68_d : dflt Go.Proofs.Try.prog 68 = .nils := by kernel_rfl
theorem t68_zv : zval Go.Proofs.Try.prog 68 = some (.nils) := by kernel_rfl
theorem t74_sz : sizeT Go.Proofs.Try.prog 74 = some 1 := by kernel_rfl
theorem t74_by : bytesT Go.Proofs.Try.prog 74 = some 8 := by kernel_rfl
theorem t74_z : zav Go.Proofs.Try.prog 74 = some [.nilf] := by kernel_rfl
theorem t74_d : dflt Go.Proofs.Try.prog 74 = .nilf := by kernel_rfl
theorem t74_zv : zval Go.Proofs.Try.prog 74 = some (.nilf) := by kernel_rfl
theorem t75_sz : sizeT Go.Proofs.Try.prog 75 = some 256 := by kernel_rfl
theorem t75_by : bytesT Go.Proofs.Try.prog 75 = some 2048 := by kernel_rfl
theorem t75_z : zav Go.Proofs.Try.prog 75 = some (List.replicate 256 (.int .u64 0)) := by kernel_rfl
theorem t75_zv : zval Go.Proofs.Try.prog 75 = some (.agg (List.replicate 256 (.int .u64 0))) := by kernel_rfl
theorem t77_sz : sizeT Go.Proofs.Try.prog 77 = some 1 := by kernel_rfl
theorem t77_by : bytesT Go.Proofs.Try.prog 77 = some 8 := by kernel_rfl
theorem t77_z : zav Go.Proofs.Try.prog 77 = some [.int .u64 0] := by kernel_rfl
theorem t77_d : dflt Go.Proofs.Try.prog 77 = .int .u64 0 := by kernel_rfl
theorem t77_zv : zval Go.Proofs.Try.prog 77 = some (.int .u64 0) := by kernel_rfl
theorem t78_sz : sizeT Go.Proofs.Try.prog 78 = some 256 := by kernel_rfl
theorem t78_by : bytesT Go.Proofs.Try.prog 78 = some 1024 := by kernel_rfl
theorem t78_z : zav Go.Proofs.Try.prog 78 = some (List.replicate 256 (.int .u32 0)) := by kernel_rfl
theorem t78_zv : zval Go.Proofs.Try.prog 78 = some (.agg (List.replicate 256 (.int .u32 0))) := by kernel_rfl
theorem t79_sz : sizeT Go.Proofs.Try.prog 79 = some 1024 := by kernel_rfl
theorem t79_by : bytesT Go.Proofs.Try.prog 79 = some 4096 := by kernel_rfl
theorem t79_z : zav Go.Proofs.Try.prog 79 = some ((List.replicate 4 (List.replicate 256 (.int .u32 0))).flatten) := by kernel_rfl
theorem t79_zv : zval Go.Proofs.Try.prog 79 = some (.agg ((List.replicate 4 (List.replicate 256 (.int .u32 0))).flatten)) := by kernel_rfl
theorem t85_sz : sizeT Go.Proofs.Try.prog 85 = some 1 := by kernel_rfl
theorem t85_by : bytesT Go.Proofs.Try.prog 85 = some 24 := by kernel_rfl
theorem t85_z : zav Go.Proofs.Try.prog 85 = some [.nils] := by kernel_rfl
theorem t85_d : dflt Go.Proofs.Try.prog 85 = .nils := by kernel_rfl
theorem t85_zv : zval Go.Proofs.Try.prog 85 = some (.nils) := by kernel_rfl
theorem t90_sz : sizeT Go.Proofs.Try.prog 90 = some 8 := by kernel_rfl
theorem t90_by : bytesT Go.Proofs.Try.prog 90 = some 32 := by kernel_rfl
theorem t90_z : zav Go.Proofs.Try.prog 90 = some (List.replicate 8 (.int .u32 0)) := by kernel_rfl
theorem t90_zv : zval Go.Proofs.Try.prog 90 = some (.agg (List.replicate 8 (.int .u32 0))) := by kernel_rfl
theorem t92_sz : sizeT Go.Proofs.Try.prog 92 = some 10 := by kernel_rfl
theorem t92_z : zav Go.Proofs.Try.prog 92 = some ((List.replicate 8 (.int .u32 0)) ++ [.nils] ++ [.int .u64 0]) := by kernel_rfl
theorem t92_zv : zval Go.Proofs.Try.prog 92 = some (.agg ((List.replicate 8 (.int .u32 0)) ++ [.nils] ++ [.int .u64 0])) := by kernel_rfl
theorem t92_f0 : fieldT Go.Proofs.Try.prog 92 0 = some (0, 90) := by kernel_rfl
theorem t92_f1 : fieldT Go.Proofs.Try.prog 92 1 = some (8, 22) := by kernel_rfl
theorem t92_f2 : fieldT Go.Proofs.Try.prog 92 2 = some (9, 30) := by kernel_rfl
theorem t92_pl : placesT Go.Proofs.Try.prog 92 = some [(0, 8), (8, 1), (9, 1)] := by kernel_rfl
theorem t93_sz : sizeT Go.Proofs.Try.prog 93 = some 10 := by kernel_rfl
theorem t93_z : zav Go.Proofs.Try.prog 93 = some ((List.replicate 8 (.int .u32 0)) ++ [.nils] ++ [.int .u64 0]) := by kernel_rfl
theorem t93_zv : zval Go.Proofs.Try.prog 93 = some (.agg ((List.replicate 8 (.int .u32 0)) ++ [.nils] ++ [.int .u64 0])) := by kernel_rfl
theorem t93_f0 : fieldT Go.Proofs.Try.prog 93 0 = some (0, 90) := by kernel_rfl
theorem t93_f1 : fieldT Go.Proofs.Try.prog 93 1 = some (8, 22) := by kernel_rfl
theorem t93_f2 : fieldT Go.Proofs.Try.prog 93 2 = some (9, 30) := by kernel_rfl
theorem t93_pl : placesT Go.Proofs.Try.prog 93 = some [(0, 8), (8, 1), (9, 1)] := by kernel_rfl
theorem t94_sz : sizeT Go.Proofs.Try.prog 94 = some 1 := by kernel_rfl
theorem t94_by : bytesT Go.Proofs.Try.prog 94 = some 8 := by kernel_rfl
theorem t94_z : zav Go.Proofs.Try.prog 94 = some [.nilf] := by kernel_rfl
theorem t94_d : dflt Go.Proofs.Try.prog 94 = .nilf := by kernel_rfl
theorem t94_zv : zval Go.Proofs.Try.prog 94 = some (.nilf) := by kernel_rfl
theorem t97_sz : sizeT Go.Proofs.Try.prog 97 = some 256 := by kernel_rfl
theorem t97_by : bytesT Go.Proofs.Try.prog 97 = some 256 := by kernel_rfl
theorem t97_z : zav Go.Proofs.Try.prog 97 = some (List.replicate 256 (.int .u8 0)) := by kernel_rfl
theorem t97_zv : zval Go.Proofs.Try.prog 97 = some (.agg (List.replicate 256 (.int .u8 0))) := by kernel_rfl
theorem t98_sz : sizeT Go.Proofs.Try.prog 98 = some 256 := by kernel_rfl
theorem t98_by : bytesT Go.Proofs.Try.prog 98 = some 256 := by kernel_rfl
theorem t98_z : zav Go.Proofs.Try.prog 98 = some (List.replicate 256 (.int .u8 0)) := by kernel_rfl
theorem t98_zv : zval Go.Proofs.Try.prog 98 = some (.agg (List.replicate 256 (.int .u8 0))) := by kernel_rfl
theorem t100_sz : sizeT Go.Proofs.Try.prog 100 = some 1 := by kernel_rfl
theorem t100_by : bytesT Go.Proofs.Try.prog 100 = some 8 := by kernel_rfl
theorem t100_z : zav Go.Proofs.Try.prog 100 = some [.nilf] := by kernel_rfl
theorem t100_d : dflt Go.Proofs.Try.prog 100 = .nilf := by kernel_rfl
theorem t100_zv : zval Go.Proofs.Try.prog 100 = some (.nilf) := by kernel_rfl
theorem t101_sz : sizeT Go.Proofs.Try.prog 101 = some 1 := by kernel_rfl
theorem t101_by : bytesT Go.Proofs.Try.prog 101 = some 8 := by kernel_rfl
theorem t101_z : zav Go.Proofs.Try.prog 101 = some [.nilf] := by kernel_rfl
theorem t101_d : dflt Go.Proofs.Try.prog 101 = .nilf := by kernel_rfl
theorem t101_zv : zval Go.Proofs.Try.prog 101 = some (.nilf) := by kernel_rfl
theorem t102_sz : sizeT Go.Proofs.Try.prog 102 = some 2 := by kernel_rfl
theorem t102_z : zav Go.Proofs.Try.prog 102 = some [.bool false, .nilf] := by kernel_rfl
theorem t102_zv : zval Go.Proofs.Try.prog 102 = some (.agg [.bool false, .nilf]) := by kernel_rfl
theorem t102_f0 : fieldT Go.Proofs.Try.prog 102 0 = some (0, 4) := by kernel_rfl
theorem t102_f1 : fieldT Go.Proofs.Try.prog 102 1 = some (1, 101) := by kernel_rfl
theorem t102_pl : placesT Go.Proofs.Try.prog 102 = some [(0, 1), (1, 1)] := by kernel_rfl
theorem t103_sz : sizeT Go.Proofs.Try.prog 103 = some 2 := by kernel_rfl
theorem t103_z : zav Go.Proofs.Try.prog 103 = some [.bool false, .nilf] := by kernel_rfl
theorem t103_zv : zval Go.Proofs.Try.prog 103 = some (.agg [.bool false, .nilf]) := by kernel_rfl
theorem t103_f0 : fieldT Go.Proofs.Try.prog 103 0 = some (0, 4) := by kernel_rfl
theorem t103_f1 : fieldT Go.Proofs.Try.prog 103 1 = some (1, 101) := by kernel_rfl
theorem t103_pl : placesT Go.Proofs.Try.prog 103 = some [(0, 1), (1, 1)] := by kernel_rfl
theorem t105_sz : sizeT Go.Proofs.Try.prog 105 = some 1 := by kernel_rfl
theorem t105_by : bytesT Go.Proofs.Try.prog 105 = some 8 := by kernel_rfl
theorem t105_z : zav Go.Proofs.Try.prog 105 = some [.nilm] := by kernel_rfl
theorem t105_d : dflt Go.Proofs.Try.prog 105 = .nilm := by kernel_rfl
theorem t105_zv : zval Go.Proofs.Try.prog 105 = some (.nilm) := by kernel_rfl
theorem t108_sz : sizeT Go.Proofs.Try.prog 108 = some 1 := by kernel_rfl
theorem t108_by : bytesT Go.Proofs.Try.prog 108 = some 8 := by kernel_rfl
theorem t108_z : zav Go.Proofs.Try.prog 108 = some [.nilf] := by kernel_rfl
theorem t108_d : dflt Go.Proofs.Try.prog 108 = .nilf := by kernel_rfl
theorem t108_zv : zval Go.Proofs.Try.prog 108 = some (.nilf) := by kernel_rfl
theorem t111_sz : sizeT Go.Proofs.Try.prog 111 = some 1 := by kernel_rfl
theorem t111_by : bytesT Go.Proofs.Try.prog 111 = some 24 := by kernel_rfl
theorem t111_z : zav Go.Proofs.Try.prog 111 = some [.nils] := by kernel_rfl
theorem t111_d : dflt Go.Proofs.Try.prog 111 = .nils := by kernel_rfl
theorem t111_zv : zval Go.Proofs.Try.prog 111 = some (.nils) := by kernel_rfl
theorem t114_sz : sizeT Go.Proofs.Try.prog 114 = some 64 := by kernel_rfl
theorem t114_by : bytesT Go.Proofs.Try.prog 114 = some 256 := by kernel_rfl
theorem t114_z : zav Go.Proofs.Try.prog 114 = some (List.replicate 64 (.int .u32 0)) := by kernel_rfl
theorem t114_zv : zval Go.Proofs.Try.prog 114 = some (.agg (List.replicate 64 (.int .u32 0))) := by kernel_rfl
theorem t118_sz : sizeT Go.Proofs.Try.prog 118 = some 1 := by kernel_rfl
theorem t118_by : bytesT Go.Proofs.Try.prog 118 = some 8 := by kernel_rfl
theorem t118_z : zav Go.Proofs.Try.prog 118 = some [.nilf] := by kernel_rfl
theorem t118_d : dflt Go.Proofs.Try.prog 118 = .nilf := by kernel_rfl
theorem t118_zv : zval Go.Proofs.Try.prog 118 = some (.nilf) := by kernel_rfl
theorem en3 : enters Go.Proofs.Try.prog 3 = true := by kernel_rfl
theorem en4 : enters Go.Proofs.Try.prog 4 = true := by kernel_rfl
theorem en5 : enters Go.Proofs.Try.prog 5 = true := by kernel_rfl
theorem en6 : enters Go.Proofs.Try.prog 6 = true := by kernel_rfl
theorem en7 : enters Go.Proofs.Try.prog 7 = true := by kernel_rfl
theorem en8 : enters Go.Proofs.Try.prog 8 = true := by kernel_rfl
theorem en9 : enters Go.Proofs.Try.prog 9 = true := by kernel_rfl
theorem en10 : enters Go.Proofs.Try.prog 10 = true := by kernel_rfl
theorem en11 : enters Go.Proofs.Try.prog 11 = true := by kernel_rfl
theorem en12 : enters Go.Proofs.Try.prog 12 = true := by kernel_rfl
theorem en13 : enters Go.Proofs.Try.prog 13 = true := by kernel_rfl
theorem en14 : enters Go.Proofs.Try.prog 14 = true := by kernel_rfl
theorem en15 : enters Go.Proofs.Try.prog 15 = true := by kernel_rfl
theorem en16 : enters Go.Proofs.Try.prog 16 = true := by kernel_rfl
theorem en17 : enters Go.Proofs.Try.prog 17 = true := by kernel_rfl
theorem en18 : enters Go.Proofs.Try.prog 18 = true := by kernel_rfl
theorem en19 : enters Go.Proofs.Try.prog 19 = true := by kernel_rfl
theorem en20 : enters Go.Proofs.Try.prog 20 = true := by kernel_rfl
theorem en21 : enters Go.Proofs.Try.prog 21 = true := by kernel_rfl
theorem en22 : enters Go.Proofs.Try.prog 22 = true := by kernel_rfl
theorem en23 : enters Go.Proofs.Try.prog 23 = true := by kernel_rfl
theorem en24 : enters Go.Proofs.Try.prog 24 = true := by kernel_rfl
theorem en25 : enters Go.Proofs.Try.prog 25 = true := by kernel_rfl
theorem en26 : enters Go.Proofs.Try.prog 26 = true := by kernel_rfl
theorem en27 : enters Go.Proofs.Try.prog 27 = true := by kernel_rfl
theorem en28 : enters Go.Proofs.Try.prog 28 = true := by kernel_rfl
theorem en29 : enters Go.Proofs.Try.prog 29 = true := by kernel_rfl
theorem en30 : enters Go.Proofs.Try.prog 30 = true := by kernel_rfl
theorem en31 : enters Go.Proofs.Try.prog 31 = true := by kernel_rfl
theorem en32 : enters Go.Proofs.Try.prog 32 = true := by kernel_rfl
theorem en33 : enters Go.Proofs.Try.prog 33 = true := by kernel_rfl
theorem en34 : enters Go.Proofs.Try.prog 34 = true := by kernel_rfl
theorem en35 : enters Go.Proofs.Try.prog 35 = true := by kernel_rfl
theorem en36 : enters Go.Proofs.Try.prog 36 = true := by kernel_rfl
theorem en37 : enters Go.Proofs.Try.prog 37 = true := by kernel_rfl
theorem en38 : enters Go.Proofs.Try.prog 38 = true := by kernel_rfl
theorem en39 : enters Go.Proofs.Try.prog 39 = true := by kernel_rfl
theorem en40 : enters Go.Proofs.Try.prog 40 = true := by kernel_rfl
theorem en41 : enters Go.Proofs.Try.prog 41 = true := by kernel_rfl
theorem en42 : enters Go.Proofs.Try.prog 42 = true := by kernel_rfl
theorem en43 : enters Go.Proofs.Try.prog 43 = true := by kernel_rfl
theorem en44 : enters Go.Proofs.Try.prog 44 = true := by kernel_rfl
theorem en45 : enters Go.Proofs.Try.prog 45 = true := by kernel_rfl
theorem en46 : enters Go.Proofs.Try.prog 46 = true := by kernel_rfl
theorem en47 : enters Go.Proofs.Try.prog 47 = true := by kernel_rfl
theorem en48 : enters Go.Proofs.Try.prog 48 = true := by kernel_rfl
theorem en49 : enters Go.Proofs.Try.prog 49 = true := by kernel_rfl
theorem en50 : enters Go.Proofs.Try.prog 50 = true := by kernel_rfl
theorem en51 : enters Go.Proofs.Try.prog 51 = true := by kernel_rfl
theorem en52 : enters Go.Proofs.Try.prog 52 = true := by kernel_rfl
theorem en53 : enters Go.Proofs.Try.prog 53 = true := by kernel_rfl
theorem en54 : enters Go.Proofs.Try.prog 54 = true := by kernel_rfl
theorem en55 : enters Go.Proofs.Try.prog 55 = true := by kernel_rfl
theorem en56 : enters Go.Proofs.Try.prog 56 = true := by kernel_rfl
theorem en57 : enters Go.Proofs.Try.prog 57 = true := by kernel_rfl
theorem en58 : enters Go.Proofs.Try.prog 58 = true := by kernel_rfl
theorem en59 : enters Go.Proofs.Try.prog 59 = true := by kernel_rfl
theorem en60 : enters Go.Proofs.Try.prog 60 = true := by kernel_rfl
theorem en61 : enters Go.Proofs.Try.prog 61 = true := by kernel_rfl
theorem en62 : enters Go.Proofs.Try.prog 62 = true := by kernel_rfl
theorem en63 : enters Go.Proofs.Try.prog 63 = true := by kernel_rfl
theorem en64 : enters Go.Proofs.Try.prog 64 = true := by kernel_rfl
theorem en65 : enters Go.Proofs.Try.prog 65 = true := by kernel_rfl
theorem en66 : enters Go.Proofs.Try.prog 66 = true := by kernel_rfl
theorem en67 : enters Go.Proofs.Try.prog 67 = true := by kernel_rfl
theorem en68 : enters Go.Proofs.Try.prog 68 = true := by kernel_rfl
theorem en69 : enters Go.Proofs.Try.prog 69 = true := by kernel_rfl
theorem en70 : enters Go.Proofs.Try.prog 70 = true := by kernel_rfl
theorem en71 : enters Go.Proofs.Try.prog 71 = true := by kernel_rfl
theorem en72 : enters Go.Proofs.Try.prog 72 = true := by kernel_rfl
theorem en73 : enters Go.Proofs.Try.prog 73 = true := by kernel_rfl
theorem en74 : enters Go.Proofs.Try.prog 74 = true := by kernel_rfl
theorem en75 : enters Go.Proofs.Try.prog 75 = true := by kernel_rfl
theorem en76 : enters Go.Proofs.Try.prog 76 = true := by kernel_rfl
theorem en77 : enters Go.Proofs.Try.prog 77 = true := by kernel_rfl
theorem en78 : enters Go.Proofs.Try.prog 78 = true := by kernel_rfl
theorem en79 : enters Go.Proofs.Try.prog 79 = true := by kernel_rfl
theorem en80 : enters Go.Proofs.Try.prog 80 = true := by kernel_rfl
theorem en81 : enters Go.Proofs.Try.prog 81 = true := by kernel_rfl
theorem en82 : enters Go.Proofs.Try.prog 82 = true := by kernel_rfl
theorem en83 : enters Go.Proofs.Try.prog 83 = true := by kernel_rfl
theorem en84 : enters Go.Proofs.Try.prog 84 = true := by kernel_rfl
theorem en85 : enters Go.Proofs.Try.prog 85 = true := by kernel_rfl
theorem en86 : enters Go.Proofs.Try.prog 86 = true := by kernel_rfl
theorem en87 : enters Go.Proofs.Try.prog 87 = true := by kernel_rfl
theorem en88 : enters Go.Proofs.Try.prog 88 = true := by kernel_rfl
theorem en89 : enters Go.Proofs.Try.prog 89 = true := by kernel_rfl
theorem en90 : enters Go.Proofs.Try.prog 90 = true := by kernel_rfl
theorem en91 : enters Go.Proofs.Try.prog 91 = true := by kernel_rfl
theorem en92 : enters Go.Proofs.Try.prog 92 = true := by kernel_rfl
theorem en93 : enters Go.Proofs.Try.prog 93 = true := by kernel_rfl
theorem en94 : enters Go.Proofs.Try.prog 94 = true := by kernel_rfl
theorem en95 : enters Go.Proofs.Try.prog 95 = true := by kernel_rfl
theorem en96 : enters Go.Proofs.Try.prog 96 = true := by kernel_rfl
theorem en97 : enters Go.Proofs.Try.prog 97 = true := by kernel_rfl
theorem en98 : enters Go.Proofs.Try.prog 98 = true := by kernel_rfl
theorem en99 : enters Go.Proofs.Try.prog 99 = true := by kernel_rfl
theorem t1 : type_of% (And.intro t1_k <| And.intro t1_a <| And.intro t1_if <| And.intro t1_fn <| And.intro t1_sz <| And.intro t1_by <| And.intro t1_z <| And.intro t1_d <| t1_zv) := And.intro t1_k <| And.intro t1_a <| And.intro t1_if <| And.intro t1_fn <| And.intro t1_sz <| And.intro t1_by <| And.intro t1_z <| And.intro t1_d <| t1_zv
theorem t2 : type_of% (And.intro t2_k <| And.intro t2_a <| And.intro t2_if <| And.intro t2_i <| And.intro t2_sz <| And.intro t2_by <| And.intro t2_z <| And.intro t2_d <| t2_zv) := And.intro t2_k <| And.intro t2_a <| And.intro t2_if <| And.intro t2_i <| And.intro t2_sz <| And.intro t2_by <| And.intro t2_z <| And.intro t2_d <| t2_zv
theorem t3 : type_of% (And.intro t3_k <| And.intro t3_a <| And.intro t3_if <| And.intro t3_i <| And.intro t3_sz <| And.intro t3_by <| And.intro t3_z <| And.intro t3_d <| t3_zv) := And.intro t3_k <| And.intro t3_a <| And.intro t3_if <| And.intro t3_i <| And.intro t3_sz <| And.intro t3_by <| And.intro t3_z <| And.intro t3_d <| t3_zv
theorem t4 : type_of% (And.intro t4_k <| And.intro t4_a <| And.intro t4_if <| And.intro t4_b <| And.intro t4_sz <| And.intro t4_by <| And.intro t4_z <| And.intro t4_d <| t4_zv) := And.intro t4_k <| And.intro t4_a <| And.intro t4_if <| And.intro t4_b <| And.intro t4_sz <| And.intro t4_by <| And.intro t4_z <| And.intro t4_d <| t4_zv
theorem t5 : type_of% (And.intro t5_k <| And.intro t5_a <| And.intro t5_if <| And.intro t5_i <| And.intro t5_sz <| And.intro t5_by <| And.intro t5_z <| And.intro t5_d <| t5_zv) := And.intro t5_k <| And.intro t5_a <| And.intro t5_if <| And.intro t5_i <| And.intro t5_sz <| And.intro t5_by <| And.intro t5_z <| And.intro t5_d <| t5_zv
theorem t9 : type_of% (And.intro t9_k <| And.intro t9_a <| And.intro t9_if <| And.intro t9_s <| And.intro t9_sz <| And.intro t9_by <| And.intro t9_z <| And.intro t9_d <| t9_zv) := And.intro t9_k <| And.intro t9_a <| And.intro t9_if <| And.intro t9_s <| And.intro t9_sz <| And.intro t9_by <| And.intro t9_z <| And.intro t9_d <| t9_zv
theorem t21 : type_of% (And.intro t21_k <| And.intro t21_a <| And.intro t21_if <| And.intro t21_i <| And.intro t21_sz <| And.intro t21_by <| And.intro t21_z <| And.intro t21_d <| t21_zv) := And.intro t21_k <| And.intro t21_a <| And.intro t21_if <| And.intro t21_i <| And.intro t21_sz <| And.intro t21_by <| And.intro t21_z <| And.intro t21_d <| t21_zv
theorem t22 : type_of% (And.intro t22_k <| And.intro t22_a <| And.intro t22_if <| And.intro t22_e <| And.intro t22_s <| And.intro t22_sz <| And.intro t22_by <| And.intro t22_z <| And.intro t22_d <| t22_zv) := And.intro t22_k <| And.intro t22_a <| And.intro t22_if <| And.intro t22_e <| And.intro t22_s <| And.intro t22_sz <| And.intro t22_by <| And.intro t22_z <| And.intro t22_d <| t22_zv
theorem t24 : type_of% (And.intro t24_k <| And.intro t24_a <| And.intro t24_if <| And.intro t24_i <| And.intro t24_sz <| And.intro t24_by <| And.intro t24_z <| And.intro t24_d <| t24_zv) := And.intro t24_k <| And.intro t24_a <| And.intro t24_if <| And.intro t24_i <| And.intro t24_sz <| And.intro t24_by <| And.intro t24_z <| And.intro t24_d <| t24_zv
theorem t30 : type_of% (And.intro t30_k <| And.intro t30_a <| And.intro t30_if <| And.intro t30_i <| And.intro t30_sz <| And.intro t30_by <| And.intro t30_z <| And.intro t30_d <| t30_zv) := And.intro t30_k <| And.intro t30_a <| And.intro t30_if <| And.intro t30_i <| And.intro t30_sz <| And.intro t30_by <| And.intro t30_z <| And.intro t30_d <| t30_zv
theorem t34 : type_of% (And.intro t34_k <| And.intro t34_a <| And.intro t34_if <| And.intro t34_i <| And.intro t34_sz <| And.intro t34_by <| And.intro t34_z <| And.intro t34_d <| t34_zv) := And.intro t34_k <| And.intro t34_a <| And.intro t34_if <| And.intro t34_i <| And.intro t34_sz <| And.intro t34_by <| And.intro t34_z <| And.intro t34_d <| t34_zv
theorem t39 : type_of% (And.intro t39_k <| And.intro t39_a <| And.intro t39_if <| And.intro t39_i <| And.intro t39_sz <| And.intro t39_by <| And.intro t39_z <| And.intro t39_d <| t39_zv) := And.intro t39_k <| And.intro t39_a <| And.intro t39_if <| And.intro t39_i <| And.intro t39_sz <| And.intro t39_by <| And.intro t39_z <| And.intro t39_d <| t39_zv
theorem t45 : type_of% (And.intro t45_k <| And.intro t45_a <| And.intro t45_if <| And.intro t45_ea <| And.intro t45_ar <| And.intro t45_pl <| And.intro t45_sz <| And.intro t45_by <| And.intro t45_z <| t45_zv) := And.intro t45_k <| And.intro t45_a <| And.intro t45_if <| And.intro t45_ea <| And.intro t45_ar <| And.intro t45_pl <| And.intro t45_sz <| And.intro t45_by <| And.intro t45_z <| t45_zv
theorem t49 : type_of% (And.intro t49_k <| And.intro t49_a <| And.intro t49_if <| And.intro t49_e <| And.intro t49_s <| And.intro t49_sz <| And.intro t49_by <| And.intro t49_z <| And.intro t49_d <| t49_zv) := And.intro t49_k <| And.intro t49_a <| And.intro t49_if <| And.intro t49_e <| And.intro t49_s <| And.intro t49_sz <| And.intro t49_by <| And.intro t49_z <| And.intro t49_d <| t49_zv
theorem t50 : type_of% (And.intro t50_k <| And.intro t50_a <| And.intro t50_if <| And.intro t50_p <| And.intro t50_sz <| And.intro t50_by <| And.intro t50_z <| And.intro t50_d <| t50_zv) := And.intro t50_k <| And.intro t50_a <| And.intro t50_if <| And.intro t50_p <| And.intro t50_sz <| And.intro t50_by <| And.intro t50_z <| And.intro t50_d <| t50_zv
theorem t55 : type_of% (And.intro t55_k <| And.intro t55_a <| And.intro t55_if <| And.intro t55_ea <| And.intro t55_sz <| And.intro t55_z <| And.intro t55_zv <| And.intro t55_f0 <| And.intro t55_f1 <| t55_pl) := And.intro t55_k <| And.intro t55_a <| And.intro t55_if <| And.intro t55_ea <| And.intro t55_sz <| And.intro t55_z <| And.intro t55_zv <| And.intro t55_f0 <| And.intro t55_f1 <| t55_pl
theorem t56 : type_of% (And.intro t56_k <| And.intro t56_a <| And.intro t56_if <| And.intro t56_ea <| And.intro t56_sz <| And.intro t56_z <| And.intro t56_zv <| And.intro t56_f0 <| And.intro t56_f1 <| t56_pl) := And.intro t56_k <| And.intro t56_a <| And.intro t56_if <| And.intro t56_ea <| And.intro t56_sz <| And.intro t56_z <| And.intro t56_zv <| And.intro t56_f0 <| And.intro t56_f1 <| t56_pl
theorem t68 : type_of% (And.intro t68_k <| And.intro t68_a <| And.intro t68_if <| And.intro t68_e <| And.intro t68_s <| And.intro t68_sz <| And.intro t68_by <| And.intro t68_z <| And.intro t68_d <| t68_zv) := And.intro t68_k <| And.intro t68_a <| And.intro t68_if <| And.intro t68_e <| And.intro t68_s <| And.intro t68_sz <| And.intro t68_by <| And.intro t68_z <| And.intro t68_d <| t68_zv
theorem t74 : type_of% (And.intro t74_k <| And.intro t74_a <| And.intro t74_if <| And.intro t74_fn <| And.intro t74_sz <| And.intro t74_by <| And.intro t74_z <| And.intro t74_d <| t74_zv) := And.intro t74_k <| And.intro t74_a <| And.intro t74_if <| And.intro t74_fn <| And.intro t74_sz <| And.intro t74_by <| And.intro t74_z <| And.intro t74_d <| t74_zv
theorem t75 : type_of% (And.intro t75_k <| And.intro t75_a <| And.intro t75_if <| And.intro t75_ea <| And.intro t75_ar <| And.intro t75_pl <| And.intro t75_sz <| And.intro t75_by <| And.intro t75_z <| t75_zv) := And.intro t75_k <| And.intro t75_a <| And.intro t75_if <| And.intro t75_ea <| And.intro t75_ar <| And.intro t75_pl <| And.intro t75_sz <| And.intro t75_by <| And.intro t75_z <| t75_zv
theorem t77 : type_of% (And.intro t77_k <| And.intro t77_a <| And.intro t77_if <| And.intro t77_i <| And.intro t77_sz <| And.intro t77_by <| And.intro t77_z <| And.intro t77_d <| t77_zv) := And.intro t77_k <| And.intro t77_a <| And.intro t77_if <| And.intro t77_i <| And.intro t77_sz <| And.intro t77_by <| And.intro t77_z <| And.intro t77_d <| t77_zv
theorem t78 : type_of% (And.intro t78_k <| And.intro t78_a <| And.intro t78_if <| And.intro t78_ea <| And.intro t78_ar <| And.intro t78_pl <| And.intro t78_sz <| And.intro t78_by <| And.intro t78_z <| t78_zv) := And.intro t78_k <| And.intro t78_a <| And.intro t78_if <| And.intro t78_ea <| And.intro t78_ar <| And.intro t78_pl <| And.intro t78_sz <| And.intro t78_by <| And.intro t78_z <| t78_zv
theorem t79 : type_of% (And.intro t79_k <| And.intro t79_a <| And.intro t79_if <| And.intro t79_ea <| And.intro t79_ar <| And.intro t79_pl <| And.intro t79_sz <| And.intro t79_by <| And.intro t79_z <| t79_zv) := And.intro t79_k <| And.intro t79_a <| And.intro t79_if <| And.intro t79_ea <| And.intro t79_ar <| And.intro t79_pl <| And.intro t79_sz <| And.intro t79_by <| And.intro t79_z <| t79_zv
theorem t85 : type_of% (And.intro t85_k <| And.intro t85_a <| And.intro t85_if <| And.intro t85_e <| And.intro t85_s <| And.intro t85_sz <| And.intro t85_by <| And.intro t85_z <| And.intro t85_d <| t85_zv) := And.intro t85_k <| And.intro t85_a <| And.intro t85_if <| And.intro t85_e <| And.intro t85_s <| And.intro t85_sz <| And.intro t85_by <| And.intro t85_z <| And.intro t85_d <| t85_zv
theorem t90 : type_of% (And.intro t90_k <| And.intro t90_a <| And.intro t90_if <| And.intro t90_ea <| And.intro t90_ar <| And.intro t90_pl <| And.intro t90_sz <| And.intro t90_by <| And.intro t90_z <| t90_zv) := And.intro t90_k <| And.intro t90_a <| And.intro t90_if <| And.intro t90_ea <| And.intro t90_ar <| And.intro t90_pl <| And.intro t90_sz <| And.intro t90_by <| And.intro t90_z <| t90_zv
theorem t92 : type_of% (And.intro t92_k <| And.intro t92_a <| And.intro t92_if <| And.intro t92_sz <| And.intro t92_z <| And.intro t92_zv <| And.intro t92_f0 <| And.intro t92_f1 <| And.intro t92_f2 <| t92_pl) := And.intro t92_k <| And.intro t92_a <| And.intro t92_if <| And.intro t92_sz <| And.intro t92_z <| And.intro t92_zv <| And.intro t92_f0 <| And.intro t92_f1 <| And.intro t92_f2 <| t92_pl
theorem t93 : type_of% (And.intro t93_k <| And.intro t93_a <| And.intro t93_if <| And.intro t93_sz <| And.intro t93_z <| And.intro t93_zv <| And.intro t93_f0 <| And.intro t93_f1 <| And.intro t93_f2 <| t93_pl) := And.intro t93_k <| And.intro t93_a <| And.intro t93_if <| And.intro t93_sz <| And.intro t93_z <| And.intro t93_zv <| And.intro t93_f0 <| And.intro t93_f1 <| And.intro t93_f2 <| t93_pl
theorem t94 : type_of% (And.intro t94_k <| And.intro t94_a <| And.intro t94_if <| And.intro t94_fn <| And.intro t94_sz <| And.intro t94_by <| And.intro t94_z <| And.intro t94_d <| t94_zv) := And.intro t94_k <| And.intro t94_a <| And.intro t94_if <| And.intro t94_fn <| And.intro t94_sz <| And.intro t94_by <| And.intro t94_z <| And.intro t94_d <| t94_zv
theorem t97 : type_of% (And.intro t97_k <| And.intro t97_a <| And.intro t97_if <| And.intro t97_ea <| And.intro t97_ar <| And.intro t97_pl <| And.intro t97_sz <| And.intro t97_by <| And.intro t97_z <| t97_zv) := And.intro t97_k <| And.intro t97_a <| And.intro t97_if <| And.intro t97_ea <| And.intro t97_ar <| And.intro t97_pl <| And.intro t97_sz <| And.intro t97_by <| And.intro t97_z <| t97_zv
theorem t98 : type_of% (And.intro t98_k <| And.intro t98_a <| And.intro t98_if <| And.intro t98_ea <| And.intro t98_ar <| And.intro t98_pl <| And.intro t98_sz <| And.intro t98_by <| And.intro t98_z <| t98_zv) := And.intro t98_k <| And.intro t98_a <| And.intro t98_if <| And.intro t98_ea <| And.intro t98_ar <| And.intro t98_pl <| And.intro t98_sz <| And.intro t98_by <| And.intro t98_z <| t98_zv
theorem t100 : type_of% (And.intro t100_k <| And.intro t100_a <| And.intro t100_if <| And.intro t100_fn <| And.intro t100_sz <| And.intro t100_by <| And.intro t100_z <| And.intro t100_d <| t100_zv) := And.intro t100_k <| And.intro t100_a <| And.intro t100_if <| And.intro t100_fn <| And.intro t100_sz <| And.intro t100_by <| And.intro t100_z <| And.intro t100_d <| t100_zv
theorem t101 : type_of% (And.intro t101_k <| And.intro t101_a <| And.intro t101_if <| And.intro t101_fn <| And.intro t101_sz <| And.intro t101_by <| And.intro t101_z <| And.intro t101_d <| t101_zv) := And.intro t101_k <| And.intro t101_a <| And.intro t101_if <| And.intro t101_fn <| And.intro t101_sz <| And.intro t101_by <| And.intro t101_z <| And.intro t101_d <| t101_zv
theorem t102 : type_of% (And.intro t102_k <| And.intro t102_a <| And.intro t102_if <| And.intro t102_sz <| And.intro t102_z <| And.intro t102_zv <| And.intro t102_f0 <| And.intro t102_f1 <| t102_pl) := And.intro t102_k <| And.intro t102_a <| And.intro t102_if <| And.intro t102_sz <| And.intro t102_z <| And.intro t102_zv <| And.intro t102_f0 <| And.intro t102_f1 <| t102_pl
theorem t103 : type_of% (And.intro t103_k <| And.intro t103_a <| And.intro t103_if <| And.intro t103_sz <| And.intro t103_z <| And.intro t103_zv <| And.intro t103_f0 <| And.intro t103_f1 <| t103_pl) := And.intro t103_k <| And.intro t103_a <| And.intro t103_if <| And.intro t103_sz <| And.intro t103_z <| And.intro t103_zv <| And.intro t103_f0 <| And.intro t103_f1 <| t103_pl
theorem t105 : type_of% (And.intro t105_k <| And.intro t105_a <| And.intro t105_if <| And.intro t105_mp <| And.intro t105_sz <| And.intro t105_by <| And.intro t105_z <| And.intro t105_d <| t105_zv) := And.intro t105_k <| And.intro t105_a <| And.intro t105_if <| And.intro t105_mp <| And.intro t105_sz <| And.intro t105_by <| And.intro t105_z <| And.intro t105_d <| t105_zv
theorem t108 : type_of% (And.intro t108_k <| And.intro t108_a <| And.intro t108_if <| And.intro t108_fn <| And.intro t108_sz <| And.intro t108_by <| And.intro t108_z <| And.intro t108_d <| t108_zv) := And.intro t108_k <| And.intro t108_a <| And.intro t108_if <| And.intro t108_fn <| And.intro t108_sz <| And.intro t108_by <| And.intro t108_z <| And.intro t108_d <| t108_zv
theorem t111 : type_of% (And.intro t111_k <| And.intro t111_a <| And.intro t111_if <| And.intro t111_e <| And.intro t111_s <| And.intro t111_sz <| And.intro t111_by <| And.intro t111_z <| And.intro t111_d <| t111_zv) := And.intro t111_k <| And.intro t111_a <| And.intro t111_if <| And.intro t111_e <| And.intro t111_s <| And.intro t111_sz <| And.intro t111_by <| And.intro t111_z <| And.intro t111_d <| t111_zv
theorem t114 : type_of% (And.intro t114_k <| And.intro t114_a <| And.intro t114_if <| And.intro t114_ea <| And.intro t114_ar <| And.intro t114_pl <| And.intro t114_sz <| And.intro t114_by <| And.intro t114_z <| t114_zv) := And.intro t114_k <| And.intro t114_a <| And.intro t114_if <| And.intro t114_ea <| And.intro t114_ar <| And.intro t114_pl <| And.intro t114_sz <| And.intro t114_by <| And.intro t114_z <| t114_zv
theorem t118 : type_of% (And.intro t118_k <| And.intro t118_a <| And.intro t118_if <| And.intro t118_fn <| And.intro t118_sz <| And.intro t118_by <| And.intro t118_z <| And.intro t118_d <| t118_zv) := And.intro t118_k <| And.intro t118_a <| And.intro t118_if <| And.intro t118_fn <| And.intro t118_sz <| And.intro t118_by <| And.intro t118_z <| And.intro t118_d <| t118_zv
theorem mixed : Go.Proofs.Try.prog.follows .mixedOrders = true := by kernel_rfl
end Go.Proofs.Ytiibjaommelkkaa.Fx
