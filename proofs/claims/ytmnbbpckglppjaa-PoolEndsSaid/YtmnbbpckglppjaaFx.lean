/- Facts on the types and functions of the translation, written by a program of our own. -/
import Derived.Test.YtmnbbpckglppjaaEng10
import Derived.Test.YtmnbbpckglppjaaProg
set_option maxRecDepth 100000
namespace Go.Proofs.Ytmnbbpckglppjaa.Fx
open Go Go.Eng
theorem t1_k : known Go.Proofs.Try.prog 1 = true := by kernel_rfl
theorem t1_a : aggT Go.Proofs.Try.prog 1 = false := by kernel_rfl
theorem t1_if : isIfaceT Go.Proofs.Try.prog 1 = false := by kernel_rfl
theorem t1_fn : isFuncT Go.Proofs.Try.prog 1 = true := by kernel_rfl
theorem t2_k : known Go.Proofs.Try.prog 2 = true := by kernel_rfl
theorem t2_a : aggT Go.Proofs.Try.prog 2 = false := by kernel_rfl
theorem t2_if : isIfaceT Go.Proofs.Try.prog 2 = false := by kernel_rfl
theorem t2_i : intT Go.Proofs.Try.prog 2 = some .i64 := by kernel_rfl
theorem t3_k : known Go.Proofs.Try.prog 3 = true := by kernel_rfl
theorem t3_a : aggT Go.Proofs.Try.prog 3 = false := by kernel_rfl
theorem t3_if : isIfaceT Go.Proofs.Try.prog 3 = false := by kernel_rfl
theorem t3_i : intT Go.Proofs.Try.prog 3 = some .i64 := by kernel_rfl
theorem t4_k : known Go.Proofs.Try.prog 4 = true := by kernel_rfl
theorem t4_a : aggT Go.Proofs.Try.prog 4 = false := by kernel_rfl
theorem t4_if : isIfaceT Go.Proofs.Try.prog 4 = false := by kernel_rfl
theorem t4_b : isBoolT Go.Proofs.Try.prog 4 = true := by kernel_rfl
theorem t5_k : known Go.Proofs.Try.prog 5 = true := by kernel_rfl
theorem t5_a : aggT Go.Proofs.Try.prog 5 = false := by kernel_rfl
theorem t5_if : isIfaceT Go.Proofs.Try.prog 5 = false := by kernel_rfl
theorem t5_i : intT Go.Proofs.Try.prog 5 = some .u8 := by kernel_rfl
theorem t6_k : known Go.Proofs.Try.prog 6 = true := by kernel_rfl
theorem t6_a : aggT Go.Proofs.Try.prog 6 = false := by kernel_rfl
theorem t6_if : isIfaceT Go.Proofs.Try.prog 6 = false := by kernel_rfl
theorem t6_i : intT Go.Proofs.Try.prog 6 = some .u8 := by kernel_rfl
theorem t9_k : known Go.Proofs.Try.prog 9 = true := by kernel_rfl
theorem t9_a : aggT Go.Proofs.Try.prog 9 = false := by kernel_rfl
theorem t9_if : isIfaceT Go.Proofs.Try.prog 9 = false := by kernel_rfl
theorem t9_s : isStrT Go.Proofs.Try.prog 9 = true := by kernel_rfl
theorem t20_k : known Go.Proofs.Try.prog 20 = true := by kernel_rfl
theorem t20_a : aggT Go.Proofs.Try.prog 20 = false := by kernel_rfl
theorem t20_if : isIfaceT Go.Proofs.Try.prog 20 = true := by kernel_rfl
theorem t22_k : known Go.Proofs.Try.prog 22 = true := by kernel_rfl
theorem t22_a : aggT Go.Proofs.Try.prog 22 = false := by kernel_rfl
theorem t22_if : isIfaceT Go.Proofs.Try.prog 22 = false := by kernel_rfl
theorem t22_i : intT Go.Proofs.Try.prog 22 = some .u64 := by kernel_rfl
theorem t23_k : known Go.Proofs.Try.prog 23 = true := by kernel_rfl
theorem t23_a : aggT Go.Proofs.Try.prog 23 = false := by kernel_rfl
theorem t23_if : isIfaceT Go.Proofs.Try.prog 23 = false := by kernel_rfl
theorem t23_e : elemT Go.Proofs.Try.prog 23 = some 5 := by kernel_rfl
theorem t23_s : isStrT Go.Proofs.Try.prog 23 = false := by kernel_rfl
theorem t25_k : known Go.Proofs.Try.prog 25 = true := by kernel_rfl
theorem t25_a : aggT Go.Proofs.Try.prog 25 = false := by kernel_rfl
theorem t25_if : isIfaceT Go.Proofs.Try.prog 25 = false := by kernel_rfl
theorem t25_i : intT Go.Proofs.Try.prog 25 = some .i64 := by kernel_rfl
theorem t35_k : known Go.Proofs.Try.prog 35 = true := by kernel_rfl
theorem t35_a : aggT Go.Proofs.Try.prog 35 = false := by kernel_rfl
theorem t35_if : isIfaceT Go.Proofs.Try.prog 35 = false := by kernel_rfl
theorem t35_p : isPtrT Go.Proofs.Try.prog 35 = true := by kernel_rfl
theorem t45_k : known Go.Proofs.Try.prog 45 = true := by kernel_rfl
theorem t45_a : aggT Go.Proofs.Try.prog 45 = false := by kernel_rfl
theorem t45_if : isIfaceT Go.Proofs.Try.prog 45 = false := by kernel_rfl
theorem t45_e : elemT Go.Proofs.Try.prog 45 = some 55 := by kernel_rfl
theorem t45_s : isStrT Go.Proofs.Try.prog 45 = false := by kernel_rfl
theorem t46_k : known Go.Proofs.Try.prog 46 = true := by kernel_rfl
theorem t46_a : aggT Go.Proofs.Try.prog 46 = false := by kernel_rfl
theorem t46_if : isIfaceT Go.Proofs.Try.prog 46 = false := by kernel_rfl
theorem t46_p : isPtrT Go.Proofs.Try.prog 46 = true := by kernel_rfl
theorem t49_k : known Go.Proofs.Try.prog 49 = true := by kernel_rfl
theorem t49_a : aggT Go.Proofs.Try.prog 49 = false := by kernel_rfl
theorem t49_if : isIfaceT Go.Proofs.Try.prog 49 = false := by kernel_rfl
theorem t49_p : isPtrT Go.Proofs.Try.prog 49 = true := by kernel_rfl
theorem t52_k : known Go.Proofs.Try.prog 52 = true := by kernel_rfl
theorem t52_a : aggT Go.Proofs.Try.prog 52 = false := by kernel_rfl
theorem t52_if : isIfaceT Go.Proofs.Try.prog 52 = false := by kernel_rfl
theorem t52_i : intT Go.Proofs.Try.prog 52 = some .u16 := by kernel_rfl
theorem t53_k : known Go.Proofs.Try.prog 53 = true := by kernel_rfl
theorem t53_a : aggT Go.Proofs.Try.prog 53 = false := by kernel_rfl
theorem t53_if : isIfaceT Go.Proofs.Try.prog 53 = false := by kernel_rfl
theorem t53_i : intT Go.Proofs.Try.prog 53 = some .u32 := by kernel_rfl
theorem t54_k : known Go.Proofs.Try.prog 54 = true := by kernel_rfl
theorem t54_a : aggT Go.Proofs.Try.prog 54 = true := by kernel_rfl
theorem t54_if : isIfaceT Go.Proofs.Try.prog 54 = false := by kernel_rfl
theorem t54_ea : eqAggT Go.Proofs.Try.prog 54 = true := by kernel_rfl
theorem t55_k : known Go.Proofs.Try.prog 55 = true := by kernel_rfl
theorem t55_a : aggT Go.Proofs.Try.prog 55 = true := by kernel_rfl
theorem t55_if : isIfaceT Go.Proofs.Try.prog 55 = false := by kernel_rfl
theorem t55_ea : eqAggT Go.Proofs.Try.prog 55 = true := by kernel_rfl
theorem t62_k : known Go.Proofs.Try.prog 62 = true := by kernel_rfl
theorem t62_a : aggT Go.Proofs.Try.prog 62 = true := by kernel_rfl
theorem t62_if : isIfaceT Go.Proofs.Try.prog 62 = false := by kernel_rfl
theorem t63_k : known Go.Proofs.Try.prog 63 = true := by kernel_rfl
theorem t63_a : aggT Go.Proofs.Try.prog 63 = true := by kernel_rfl
theorem t63_if : isIfaceT Go.Proofs.Try.prog 63 = false := by kernel_rfl
theorem t65_k : known Go.Proofs.Try.prog 65 = true := by kernel_rfl
theorem t65_a : aggT Go.Proofs.Try.prog 65 = false := by kernel_rfl
theorem t65_if : isIfaceT Go.Proofs.Try.prog 65 = false := by kernel_rfl
theorem t65_p : isPtrT Go.Proofs.Try.prog 65 = true := by kernel_rfl
theorem t67_k : known Go.Proofs.Try.prog 67 = true := by kernel_rfl
theorem t67_a : aggT Go.Proofs.Try.prog 67 = false := by kernel_rfl
theorem t67_if : isIfaceT Go.Proofs.Try.prog 67 = false := by kernel_rfl
theorem t67_p : isPtrT Go.Proofs.Try.prog 67 = true := by kernel_rfl
theorem t73_k : known Go.Proofs.Try.prog 73 = true := by kernel_rfl
theorem t73_a : aggT Go.Proofs.Try.prog 73 = false := by kernel_rfl
theorem t73_if : isIfaceT Go.Proofs.Try.prog 73 = false := by kernel_rfl
theorem t73_e : elemT Go.Proofs.Try.prog 73 = some 4 := by kernel_rfl
theorem t73_s : isStrT Go.Proofs.Try.prog 73 = false := by kernel_rfl
theorem t74_k : known Go.Proofs.Try.prog 74 = true := by kernel_rfl
theorem t74_a : aggT Go.Proofs.Try.prog 74 = false := by kernel_rfl
theorem t74_if : isIfaceT Go.Proofs.Try.prog 74 = false := by kernel_rfl
theorem t74_fn : isFuncT Go.Proofs.Try.prog 74 = true := by kernel_rfl
theorem t75_k : known Go.Proofs.Try.prog 75 = true := by kernel_rfl
theorem t75_a : aggT Go.Proofs.Try.prog 75 = false := by kernel_rfl
theorem t75_if : isIfaceT Go.Proofs.Try.prog 75 = false := by kernel_rfl
theorem t75_e : elemT Go.Proofs.Try.prog 75 = some 83 := by kernel_rfl
theorem t75_s : isStrT Go.Proofs.Try.prog 75 = false := by kernel_rfl
theorem t76_k : known Go.Proofs.Try.prog 76 = true := by kernel_rfl
theorem t76_a : aggT Go.Proofs.Try.prog 76 = true := by kernel_rfl
theorem t76_if : isIfaceT Go.Proofs.Try.prog 76 = false := by kernel_rfl
theorem t76_ea : eqAggT Go.Proofs.Try.prog 76 = true := by kernel_rfl
theorem t76_ar : arrT Go.Proofs.Try.prog 76 = some (4, 3) := by kernel_rfl
theorem t76_pl : placesT Go.Proofs.Try.prog 76 = none := by kernel_rfl
theorem t79_k : known Go.Proofs.Try.prog 79 = true := by kernel_rfl
theorem t79_a : aggT Go.Proofs.Try.prog 79 = false := by kernel_rfl
theorem t79_if : isIfaceT Go.Proofs.Try.prog 79 = false := by kernel_rfl
theorem t79_p : isPtrT Go.Proofs.Try.prog 79 = true := by kernel_rfl
theorem t82_k : known Go.Proofs.Try.prog 82 = true := by kernel_rfl
theorem t82_a : aggT Go.Proofs.Try.prog 82 = true := by kernel_rfl
theorem t82_if : isIfaceT Go.Proofs.Try.prog 82 = false := by kernel_rfl
theorem t82_ea : eqAggT Go.Proofs.Try.prog 82 = true := by kernel_rfl
theorem t83_k : known Go.Proofs.Try.prog 83 = true := by kernel_rfl
theorem t83_a : aggT Go.Proofs.Try.prog 83 = true := by kernel_rfl
theorem t83_if : isIfaceT Go.Proofs.Try.prog 83 = false := by kernel_rfl
theorem t83_ea : eqAggT Go.Proofs.Try.prog 83 = true := by kernel_rfl
theorem t89_k : known Go.Proofs.Try.prog 89 = true := by kernel_rfl
theorem t89_a : aggT Go.Proofs.Try.prog 89 = false := by kernel_rfl
theorem t89_if : isIfaceT Go.Proofs.Try.prog 89 = false := by kernel_rfl
theorem t89_e : elemT Go.Proofs.Try.prog 89 = some 53 := by kernel_rfl
theorem t89_s : isStrT Go.Proofs.Try.prog 89 = false := by kernel_rfl
theorem t90_k : known Go.Proofs.Try.prog 90 = true := by kernel_rfl
theorem t90_a : aggT Go.Proofs.Try.prog 90 = false := by kernel_rfl
theorem t90_if : isIfaceT Go.Proofs.Try.prog 90 = false := by kernel_rfl
theorem t90_fn : isFuncT Go.Proofs.Try.prog 90 = true := by kernel_rfl
theorem t91_k : known Go.Proofs.Try.prog 91 = true := by kernel_rfl
theorem t91_a : aggT Go.Proofs.Try.prog 91 = false := by kernel_rfl
theorem t91_if : isIfaceT Go.Proofs.Try.prog 91 = false := by kernel_rfl
theorem t91_e : elemT Go.Proofs.Try.prog 91 = some 3 := by kernel_rfl
theorem t91_s : isStrT Go.Proofs.Try.prog 91 = false := by kernel_rfl
theorem t92_k : known Go.Proofs.Try.prog 92 = true := by kernel_rfl
theorem t92_a : aggT Go.Proofs.Try.prog 92 = false := by kernel_rfl
theorem t92_if : isIfaceT Go.Proofs.Try.prog 92 = false := by kernel_rfl
theorem t92_p : isPtrT Go.Proofs.Try.prog 92 = true := by kernel_rfl
theorem t96_k : known Go.Proofs.Try.prog 96 = true := by kernel_rfl
theorem t96_a : aggT Go.Proofs.Try.prog 96 = false := by kernel_rfl
theorem t96_if : isIfaceT Go.Proofs.Try.prog 96 = false := by kernel_rfl
theorem t96_p : isPtrT Go.Proofs.Try.prog 96 = true := by kernel_rfl
theorem t97_k : known Go.Proofs.Try.prog 97 = true := by kernel_rfl
theorem t97_a : aggT Go.Proofs.Try.prog 97 = true := by kernel_rfl
theorem t97_if : isIfaceT Go.Proofs.Try.prog 97 = false := by kernel_rfl
theorem t98_k : known Go.Proofs.Try.prog 98 = true := by kernel_rfl
theorem t98_a : aggT Go.Proofs.Try.prog 98 = true := by kernel_rfl
theorem t98_if : isIfaceT Go.Proofs.Try.prog 98 = false := by kernel_rfl
theorem t106_k : known Go.Proofs.Try.prog 106 = true := by kernel_rfl
theorem t106_a : aggT Go.Proofs.Try.prog 106 = false := by kernel_rfl
theorem t106_if : isIfaceT Go.Proofs.Try.prog 106 = false := by kernel_rfl
theorem t106_fn : isFuncT Go.Proofs.Try.prog 106 = true := by kernel_rfl
theorem t107_k : known Go.Proofs.Try.prog 107 = true := by kernel_rfl
theorem t107_a : aggT Go.Proofs.Try.prog 107 = false := by kernel_rfl
theorem t107_if : isIfaceT Go.Proofs.Try.prog 107 = false := by kernel_rfl
theorem t107_fn : isFuncT Go.Proofs.Try.prog 107 = true := by kernel_rfl
theorem t109_k : known Go.Proofs.Try.prog 109 = true := by kernel_rfl
theorem t109_a : aggT Go.Proofs.Try.prog 109 = false := by kernel_rfl
theorem t109_if : isIfaceT Go.Proofs.Try.prog 109 = false := by kernel_rfl
theorem t109_mx : mxT Go.Proofs.Try.prog 109 = some (.b, 91) := by kernel_rfl
theorem t110_k : known Go.Proofs.Try.prog 110 = true := by kernel_rfl
theorem t110_a : aggT Go.Proofs.Try.prog 110 = true := by kernel_rfl
theorem t110_if : isIfaceT Go.Proofs.Try.prog 110 = false := by kernel_rfl
theorem t111_k : known Go.Proofs.Try.prog 111 = true := by kernel_rfl
theorem t111_a : aggT Go.Proofs.Try.prog 111 = true := by kernel_rfl
theorem t111_if : isIfaceT Go.Proofs.Try.prog 111 = false := by kernel_rfl
theorem t112_k : known Go.Proofs.Try.prog 112 = true := by kernel_rfl
theorem t112_a : aggT Go.Proofs.Try.prog 112 = true := by kernel_rfl
theorem t112_if : isIfaceT Go.Proofs.Try.prog 112 = false := by kernel_rfl
theorem t112_ea : eqAggT Go.Proofs.Try.prog 112 = true := by kernel_rfl
theorem t112_ar : arrT Go.Proofs.Try.prog 112 = some (2, 5) := by kernel_rfl
theorem t112_pl : placesT Go.Proofs.Try.prog 112 = none := by kernel_rfl
theorem t113_k : known Go.Proofs.Try.prog 113 = true := by kernel_rfl
theorem t113_a : aggT Go.Proofs.Try.prog 113 = true := by kernel_rfl
theorem t113_if : isIfaceT Go.Proofs.Try.prog 113 = false := by kernel_rfl
theorem t113_ea : eqAggT Go.Proofs.Try.prog 113 = true := by kernel_rfl
theorem t113_ar : arrT Go.Proofs.Try.prog 113 = some (2, 5) := by kernel_rfl
theorem t113_pl : placesT Go.Proofs.Try.prog 113 = none := by kernel_rfl
theorem t117_k : known Go.Proofs.Try.prog 117 = true := by kernel_rfl
theorem t117_a : aggT Go.Proofs.Try.prog 117 = false := by kernel_rfl
theorem t117_if : isIfaceT Go.Proofs.Try.prog 117 = false := by kernel_rfl
theorem t117_i : intT Go.Proofs.Try.prog 117 = some .u64 := by kernel_rfl
theorem t118_k : known Go.Proofs.Try.prog 118 = true := by kernel_rfl
theorem t118_a : aggT Go.Proofs.Try.prog 118 = true := by kernel_rfl
theorem t118_if : isIfaceT Go.Proofs.Try.prog 118 = false := by kernel_rfl
theorem t119_k : known Go.Proofs.Try.prog 119 = true := by kernel_rfl
theorem t119_a : aggT Go.Proofs.Try.prog 119 = true := by kernel_rfl
theorem t119_if : isIfaceT Go.Proofs.Try.prog 119 = false := by kernel_rfl
theorem t123_k : known Go.Proofs.Try.prog 123 = true := by kernel_rfl
theorem t123_a : aggT Go.Proofs.Try.prog 123 = true := by kernel_rfl
theorem t123_if : isIfaceT Go.Proofs.Try.prog 123 = false := by kernel_rfl
theorem t124_k : known Go.Proofs.Try.prog 124 = true := by kernel_rfl
theorem t124_a : aggT Go.Proofs.Try.prog 124 = true := by kernel_rfl
theorem t124_if : isIfaceT Go.Proofs.Try.prog 124 = false := by kernel_rfl
theorem t125_k : known Go.Proofs.Try.prog 125 = true := by kernel_rfl
theorem t125_a : aggT Go.Proofs.Try.prog 125 = true := by kernel_rfl
theorem t125_if : isIfaceT Go.Proofs.Try.prog 125 = false := by kernel_rfl
theorem t126_k : known Go.Proofs.Try.prog 126 = true := by kernel_rfl
theorem t126_a : aggT Go.Proofs.Try.prog 126 = true := by kernel_rfl
theorem t126_if : isIfaceT Go.Proofs.Try.prog 126 = false := by kernel_rfl
theorem t128_k : known Go.Proofs.Try.prog 128 = true := by kernel_rfl
theorem t128_a : aggT Go.Proofs.Try.prog 128 = false := by kernel_rfl
theorem t128_if : isIfaceT Go.Proofs.Try.prog 128 = false := by kernel_rfl
theorem t128_p : isPtrT Go.Proofs.Try.prog 128 = true := by kernel_rfl
theorem t129_k : known Go.Proofs.Try.prog 129 = true := by kernel_rfl
theorem t129_a : aggT Go.Proofs.Try.prog 129 = true := by kernel_rfl
theorem t129_if : isIfaceT Go.Proofs.Try.prog 129 = false := by kernel_rfl
theorem t130_k : known Go.Proofs.Try.prog 130 = true := by kernel_rfl
theorem t130_a : aggT Go.Proofs.Try.prog 130 = true := by kernel_rfl
theorem t130_if : isIfaceT Go.Proofs.Try.prog 130 = false := by kernel_rfl
theorem t132_k : known Go.Proofs.Try.prog 132 = true := by kernel_rfl
theorem t132_a : aggT Go.Proofs.Try.prog 132 = false := by kernel_rfl
theorem t132_if : isIfaceT Go.Proofs.Try.prog 132 = false := by kernel_rfl
theorem t132_e : elemT Go.Proofs.Try.prog 132 = some 52 := by kernel_rfl
theorem t132_s : isStrT Go.Proofs.Try.prog 132 = false := by kernel_rfl
theorem t133_k : known Go.Proofs.Try.prog 133 = true := by kernel_rfl
theorem t133_a : aggT Go.Proofs.Try.prog 133 = true := by kernel_rfl
theorem t133_if : isIfaceT Go.Proofs.Try.prog 133 = false := by kernel_rfl
theorem t134_k : known Go.Proofs.Try.prog 134 = true := by kernel_rfl
theorem t134_a : aggT Go.Proofs.Try.prog 134 = true := by kernel_rfl
theorem t134_if : isIfaceT Go.Proofs.Try.prog 134 = false := by kernel_rfl
theorem t135_k : known Go.Proofs.Try.prog 135 = true := by kernel_rfl
theorem t135_a : aggT Go.Proofs.Try.prog 135 = false := by kernel_rfl
theorem t135_if : isIfaceT Go.Proofs.Try.prog 135 = false := by kernel_rfl
theorem t135_fn : isFuncT Go.Proofs.Try.prog 135 = true := by kernel_rfl
theorem t137_k : known Go.Proofs.Try.prog 137 = true := by kernel_rfl
theorem t137_a : aggT Go.Proofs.Try.prog 137 = false := by kernel_rfl
theorem t137_if : isIfaceT Go.Proofs.Try.prog 137 = false := by kernel_rfl
theorem t137_mp : mapT Go.Proofs.Try.prog 137 = some (.i64, 4) := by kernel_rfl
theorem t137_mx : mxT Go.Proofs.Try.prog 137 = some (.i .i64, 4) := by kernel_rfl
theorem t138_k : known Go.Proofs.Try.prog 138 = true := by kernel_rfl
theorem t138_a : aggT Go.Proofs.Try.prog 138 = true := by kernel_rfl
theorem t138_if : isIfaceT Go.Proofs.Try.prog 138 = false := by kernel_rfl
theorem t139_k : known Go.Proofs.Try.prog 139 = true := by kernel_rfl
theorem t139_a : aggT Go.Proofs.Try.prog 139 = true := by kernel_rfl
theorem t139_if : isIfaceT Go.Proofs.Try.prog 139 = false := by kernel_rfl
theorem t144_k : known Go.Proofs.Try.prog 144 = true := by kernel_rfl
theorem t144_a : aggT Go.Proofs.Try.prog 144 = false := by kernel_rfl
theorem t144_if : isIfaceT Go.Proofs.Try.prog 144 = false := by kernel_rfl
theorem t144_fn : isFuncT Go.Proofs.Try.prog 144 = true := by kernel_rfl
theorem t145_k : known Go.Proofs.Try.prog 145 = true := by kernel_rfl
theorem t145_a : aggT Go.Proofs.Try.prog 145 = false := by kernel_rfl
theorem t145_if : isIfaceT Go.Proofs.Try.prog 145 = false := by kernel_rfl
theorem t145_fn : isFuncT Go.Proofs.Try.prog 145 = true := by kernel_rfl
theorem t146_k : known Go.Proofs.Try.prog 146 = true := by kernel_rfl
theorem t146_a : aggT Go.Proofs.Try.prog 146 = false := by kernel_rfl
theorem t146_if : isIfaceT Go.Proofs.Try.prog 146 = false := by kernel_rfl
theorem t146_fn : isFuncT Go.Proofs.Try.prog 146 = true := by kernel_rfl
theorem t1_sz : sizeT Go.Proofs.Try.prog 1 = some 1 := by kernel_rfl
theorem t1_by : bytesT Go.Proofs.Try.prog 1 = some 8 := by kernel_rfl
theorem t1_z : zav Go.Proofs.Try.prog 1 = some [.nilf] := by kernel_rfl
theorem t1_d : dflt Go.Proofs.Try.prog 1 = .nilf := by kernel_rfl
theorem t1_zv : zval Go.Proofs.Try.prog 1 = some (.nilf) := by kernel_rfl
theorem t2_sz : sizeT Go.Proofs.Try.prog 2 = some 1 := by kernel_rfl
theorem t2_by : bytesT Go.Proofs.Try.prog 2 = some 8 := by kernel_rfl
theorem t2_z : zav Go.Proofs.Try.prog 2 = some [.int .i64 0] := by kernel_rfl
theorem t2_d : dflt Go.Proofs.Try.prog 2 = .int .i64 0 := by kernel_rfl
theorem t2_zv : zval Go.Proofs.Try.prog 2 = some (.int .i64 0) := by kernel_rfl
theorem t3_sz : sizeT Go.Proofs.Try.prog 3 = some 1 := by kernel_rfl
theorem t3_by : bytesT Go.Proofs.Try.prog 3 = some 8 := by kernel_rfl
theorem t3_z : zav Go.Proofs.Try.prog 3 = some [.int .i64 0] := by kernel_rfl
theorem t3_d : dflt Go.Proofs.Try.prog 3 = .int .i64 0 := by kernel_rfl
theorem t3_zv : zval Go.Proofs.Try.prog 3 = some (.int .i64 0) := by kernel_rfl
theorem t4_sz : sizeT Go.Proofs.Try.prog 4 = some 1 := by kernel_rfl
theorem t4_by : bytesT Go.Proofs.Try.prog 4 = some 1 := by kernel_rfl
theorem t4_z : zav Go.Proofs.Try.prog 4 = some [.bool false] := by kernel_rfl
theorem t4_d : dflt Go.Proofs.Try.prog 4 = .bool false := by kernel_rfl
theorem t4_zv : zval Go.Proofs.Try.prog 4 = some (.bool false) := by kernel_rfl
theorem t5_sz : sizeT Go.Proofs.Try.prog 5 = some 1 := by kernel_rfl
theorem t5_by : bytesT Go.Proofs.Try.prog 5 = some 1 := by kernel_rfl
theorem t5_z : zav Go.Proofs.Try.prog 5 = some [.int .u8 0] := by kernel_rfl
theorem t5_d : dflt Go.Proofs.Try.prog 5 = .int .u8 0 := by kernel_rfl
theorem t5_zv : zval Go.Proofs.Try.prog 5 = some (.int .u8 0) := by kernel_rfl
theorem t6_sz : sizeT Go.Proofs.Try.prog 6 = some 1 := by kernel_rfl
theorem t6_by : bytesT Go.Proofs.Try.prog 6 = some 1 := by kernel_rfl
theorem t6_z : zav Go.Proofs.Try.prog 6 = some [.int .u8 0] := by kernel_rfl
theorem t6_d : dflt Go.Proofs.Try.prog 6 = .int .u8 0 := by kernel_rfl
theorem t6_zv : zval Go.Proofs.Try.prog 6 = some (.int .u8 0) := by kernel_rfl
theorem t9_sz : sizeT Go.Proofs.Try.prog 9 = some 1 := by kernel_rfl
theorem t9_by : bytesT Go.Proofs.Try.prog 9 = some 16 := by kernel_rfl
theorem t9_z : zav Go.Proofs.Try.prog 9 = some [.str ⟨#[]⟩] := by kernel_rfl
theorem t9_d : dflt Go.Proofs.Try.prog 9 = .str ⟨#[]⟩ := by kernel_rfl
theorem t9_zv : zval Go.Proofs.Try.prog 9 = some (.str ⟨#[]⟩) := by kernel_rfl
theorem t20_sz : sizeT Go.Proofs.Try.prog 20 = some 1 := by kernel_rfl
theorem t20_by : bytesT Go.Proofs.Try.prog 20 = some 16 := by kernel_rfl
theorem t20_z : zav Go.Proofs.Try.prog 20 = some [.nili] := by kernel_rfl
theorem t20_d : dflt Go.Proofs.Try.prog 20 = .nili := by kernel_rfl
theorem t20_zv : zval Go.Proofs.Try.prog 20 = some (.nili) := by kernel_rfl
theorem t22_sz : sizeT Go.Proofs.Try.prog 22 = some 1 := by kernel_rfl
theorem t22_by : bytesT Go.Proofs.Try.prog 22 = some 8 := by kernel_rfl
theorem t22_z : zav Go.Proofs.Try.prog 22 = some [.int .u64 0] := by kernel_rfl
theorem t22_d : dflt Go.Proofs.Try.prog 22 = .int .u64 0 := by kernel_rfl
theorem t22_zv : zval Go.Proofs.Try.prog 22 = some (.int .u64 0) := by kernel_rfl
theorem t23_sz : sizeT Go.Proofs.Try.prog 23 = some 1 := by kernel_rfl
theorem t23_by : bytesT Go.Proofs.Try.prog 23 = some 24 := by kernel_rfl
theorem t23_z : zav Go.Proofs.Try.prog 23 = some [.nils] := by kernel_rfl
theorem t23_d : dflt Go.Proofs.Try.prog 23 = .nils := by kernel_rfl
theorem t23_zv : zval Go.Proofs.Try.prog 23 = some (.nils) := by kernel_rfl
theorem t25_sz : sizeT Go.Proofs.Try.prog 25 = some 1 := by kernel_rfl
theorem t25_by : bytesT Go.Proofs.Try.prog 25 = some 8 := by kernel_rfl
theorem t25_z : zav Go.Proofs.Try.prog 25 = some [.int .i64 0] := by kernel_rfl
theorem t25_d : dflt Go.Proofs.Try.prog 25 = .int .i64 0 := by kernel_rfl
theorem t25_zv : zval Go.Proofs.Try.prog 25 = some (.int .i64 0) := by kernel_rfl
theorem t35_sz : sizeT Go.Proofs.Try.prog 35 = some 1 := by kernel_rfl
theorem t35_by : bytesT Go.Proofs.Try.prog 35 = some 8 := by kernel_rfl
theorem t35_z : zav Go.Proofs.Try.prog 35 = some [.nilp] := by kernel_rfl
theorem t35_d : dflt Go.Proofs.Try.prog 35 = .nilp := by kernel_rfl
theorem t35_zv : zval Go.Proofs.Try.prog 35 = some (.nilp) := by kernel_rfl
theorem t45_sz : sizeT Go.Proofs.Try.prog 45 = some 1 := by kernel_rfl
theorem t45_by : bytesT Go.Proofs.Try.prog 45 = some 24 := by kernel_rfl
theorem t45_z : zav Go.Proofs.Try.prog 45 = some [.nils] := by kernel_rfl
theorem t45_d : dflt Go.Proofs.Try.prog 45 = .nils := by kernel_rfl
theorem t45_zv : zval Go.Proofs.Try.prog 45 = some (.nils) := by kernel_rfl
theorem t46_sz : sizeT Go.Proofs.Try.prog 46 = some 1 := by kernel_rfl
theorem t46_by : bytesT Go.Proofs.Try.prog 46 = some 8 := by kernel_rfl
theorem t46_z : zav Go.Proofs.Try.prog 46 = some [.nilp] := by kernel_rfl
theorem t46_d : dflt Go.Proofs.Try.prog 46 = .nilp := by kernel_rfl
theorem t46_zv : zval Go.Proofs.Try.prog 46 = some (.nilp) := by kernel_rfl
theorem t49_sz : sizeT Go.Proofs.Try.prog 49 = some 1 := by kernel_rfl
theorem t49_by : bytesT Go.Proofs.Try.prog 49 = some 8 := by kernel_rfl
theorem t49_z : zav Go.Proofs.Try.prog 49 = some [.nilp] := by kernel_rfl
theorem t49_d : dflt Go.Proofs.Try.prog 49 = .nilp := by kernel_rfl
theorem t49_zv : zval Go.Proofs.Try.prog 49 = some (.nilp) := by kernel_rfl
theorem t52_sz : sizeT Go.Proofs.Try.prog 52 = some 1 := by kernel_rfl
theorem t52_by : bytesT Go.Proofs.Try.prog 52 = some 2 := by kernel_rfl
theorem t52_z : zav Go.Proofs.Try.prog 52 = some [.int .u16 0] := by kernel_rfl
theorem t52_d : dflt Go.Proofs.Try.prog 52 = .int .u16 0 := by kernel_rfl
theorem t52_zv : zval Go.Proofs.Try.prog 52 = some (.int .u16 0) := by kernel_rfl
theorem t53_sz : sizeT Go.Proofs.Try.prog 53 = some 1 := by kernel_rfl
theorem t53_by : bytesT Go.Proofs.Try.prog 53 = some 4 := by kernel_rfl
theorem t53_z : zav Go.Proofs.Try.prog 53 = some [.int .u32 0] := by kernel_rfl
theorem t53_d : dflt Go.Proofs.Try.prog 53 = .int .u32 0 := by kernel_rfl
theorem t53_zv : zval Go.Proofs.Try.prog 53 = some (.int .u32 0) := by kernel_rfl
theorem t54_sz : sizeT Go.Proofs.Try.prog 54 = some 5 := by kernel_rfl
theorem t54_z : zav Go.Proofs.Try.prog 54 = some [.int .i64 0, .int .u16 0, .int .i64 0, .int .u32 0, .int .i64 0] := by kernel_rfl
theorem t54_zv : zval Go.Proofs.Try.prog 54 = some (.agg [.int .i64 0, .int .u16 0, .int .i64 0, .int .u32 0, .int .i64 0]) := by kernel_rfl
theorem t54_f0 : fieldT Go.Proofs.Try.prog 54 0 = some (0, 3) := by kernel_rfl
theorem t54_f1 : fieldT Go.Proofs.Try.prog 54 1 = some (1, 52) := by kernel_rfl
theorem t54_f2 : fieldT Go.Proofs.Try.prog 54 2 = some (2, 3) := by kernel_rfl
theorem t54_f3 : fieldT Go.Proofs.Try.prog 54 3 = some (3, 53) := by kernel_rfl
theorem t54_f4 : fieldT Go.Proofs.Try.prog 54 4 = some (4, 3) := by kernel_rfl
theorem t54_pl : placesT Go.Proofs.Try.prog 54 = some [(0, 1), (1, 1), (2, 1), (3, 1), (4, 1)] := by kernel_rfl
theorem t55_sz : sizeT Go.Proofs.Try.prog 55 = some 5 := by kernel_rfl
theorem t55_z : zav Go.Proofs.Try.prog 55 = some [.int .i64 0, .int .u16 0, .int .i64 0, .int .u32 0, .int .i64 0] := by kernel_rfl
theorem t55_zv : zval Go.Proofs.Try.prog 55 = some (.agg [.int .i64 0, .int .u16 0, .int .i64 0, .int .u32 0, .int .i64 0]) := by kernel_rfl
theorem t55_f0 : fieldT Go.Proofs.Try.prog 55 0 = some (0, 3) := by kernel_rfl
theorem t55_f1 : fieldT Go.Proofs.Try.prog 55 1 = some (1, 52) := by kernel_rfl
theorem t55_f2 : fieldT Go.Proofs.Try.prog 55 2 = some (2, 3) := by kernel_rfl
theorem t55_f3 : fieldT Go.Proofs.Try.prog 55 3 = some (3, 53) := by kernel_rfl
theorem t55_f4 : fieldT Go.Proofs.Try.prog 55 4 = some (4, 3) := by kernel_rfl
theorem t55_pl : placesT Go.Proofs.Try.prog 55 = some [(0, 1), (1, 1), (2, 1), (3, 1), (4, 1)] := by kernel_rfl
theorem t62_sz : sizeT Go.Proofs.Try.prog 62 = some 5 := by kernel_rfl
theorem t62_z : zav Go.Proofs.Try.prog 62 = some [.nils, .int .i64 0, .int .u64 0, .int .u64 0, .bool false] := by kernel_rfl
theorem t62_zv : zval Go.Proofs.Try.prog 62 = some (.agg [.nils, .int .i64 0, .int .u64 0, .int .u64 0, .bool false]) := by kernel_rfl
theorem t62_f0 : fieldT Go.Proofs.Try.prog 62 0 = some (0, 23) := by kernel_rfl
theorem t62_f1 : fieldT Go.Proofs.Try.prog 62 1 = some (1, 3) := by kernel_rfl
theorem t62_f2 : fieldT Go.Proofs.Try.prog 62 2 = some (2, 22) := by kernel_rfl
theorem t62_f3 : fieldT Go.Proofs.Try.prog 62 3 = some (3, 22) := by kernel_rfl
theorem t62_f4 : fieldT Go.Proofs.Try.prog 62 4 = some (4, 4) := by kernel_rfl
theorem t62_pl : placesT Go.Proofs.Try.prog 62 = some [(0, 1), (1, 1), (2, 1), (3, 1), (4, 1)] := by kernel_rfl
theorem t63_sz : sizeT Go.Proofs.Try.prog 63 = some 5 := by kernel_rfl
theorem t63_z : zav Go.Proofs.Try.prog 63 = some [.nils, .int .i64 0, .int .u64 0, .int .u64 0, .bool false] := by kernel_rfl
theorem t63_zv : zval Go.Proofs.Try.prog 63 = some (.agg [.nils, .int .i64 0, .int .u64 0, .int .u64 0, .bool false]) := by kernel_rfl
theorem t63_f0 : fieldT Go.Proofs.Try.prog 63 0 = some (0, 23) := by kernel_rfl
theorem t63_f1 : fieldT Go.Proofs.Try.prog 63 1 = some (1, 3) := by kernel_rfl
theorem t63_f2 : fieldT Go.Proofs.Try.prog 63 2 = some (2, 22) := by kernel_rfl
theorem t63_f3 : fieldT Go.Proofs.Try.prog 63 3 = some (3, 22) := by kernel_rfl
theorem t63_f4 : fieldT Go.Proofs.Try.prog 63 4 = some (4, 4) := by kernel_rfl
theorem t63_pl : placesT Go.Proofs.Try.prog 63 = some [(0, 1), (1, 1), (2, 1), (3, 1), (4, 1)] := by kernel_rfl
theorem t65_sz : sizeT Go.Proofs.Try.prog 65 = some 1 := by kernel_rfl
theorem t65_by : bytesT Go.Proofs.Try.prog 65 = some 8 := by kernel_rfl
theorem t65_z : zav Go.Proofs.Try.prog 65 = some [.nilp] := by kernel_rfl
theorem t65_d : dflt Go.Proofs.Try.prog 65 = .nilp := by kernel_rfl
theorem t65_zv : zval Go.Proofs.Try.prog 65 = some (.nilp) := by kernel_rfl
theorem t67_sz : sizeT Go.Proofs.Try.prog 67 = some 1 := by kernel_rfl
theorem t67_by : bytesT Go.Proofs.Try.prog 67 = some 8 := by kernel_rfl
theorem t67_z : zav Go.Proofs.Try.prog 67 = some [.nilp] := by kernel_rfl
theorem t67_d : dflt Go.Proofs.Try.prog 67 = .nilp := by kernel_rfl
theorem t67_zv : zval Go.Proofs.Try.prog 67 = some (.nilp) := by kernel_rfl
theorem t73_sz : sizeT Go.Proofs.Try.prog 73 = some 1 := by kernel_rfl
theorem t73_by : bytesT Go.Proofs.Try.prog 73 = some 24 := by kernel_rfl
theorem t73_z : zav Go.Proofs.Try.prog 73 = some [.nils] := by kernel_rfl
theorem t73_d : dflt Go.Proofs.Try.prog 73 = .nils := by kernel_rfl
theorem t73_zv : zval Go.Proofs.Try.prog 73 = some (.nils) := by kernel_rfl
theorem t74_sz : sizeT Go.Proofs.Try.prog 74 = some 1 := by kernel_rfl
theorem t74_by : bytesT Go.Proofs.Try.prog 74 = some 8 := by kernel_rfl
theorem t74_z : zav Go.Proofs.Try.prog 74 = some [.nilf] := by kernel_rfl
theorem t74_d : dflt Go.Proofs.Try.prog 74 = .nilf := by kernel_rfl
theorem t74_zv : zval Go.Proofs.Try.prog 74 = some (.nilf) := by kernel_rfl
theorem t75_sz : sizeT Go.Proofs.Try.prog 75 = some 1 := by kernel_rfl
theorem t75_by : bytesT Go.Proofs.Try.prog 75 = some 24 := by kernel_rfl
theorem t75_z : zav Go.Proofs.Try.prog 75 = some [.nils] := by kernel_rfl
theorem t75_d : dflt Go.Proofs.Try.prog 75 = .nils := by kernel_rfl
theorem t75_zv : zval Go.Proofs.Try.prog 75 = some (.nils) := by kernel_rfl
theorem t76_sz : sizeT Go.Proofs.Try.prog 76 = some 4 := by kernel_rfl
theorem t76_by : bytesT Go.Proofs.Try.prog 76 = some 32 := by kernel_rfl
theorem t76_z : zav Go.Proofs.Try.prog 76 = some (List.replicate 4 (.int .i64 0)) := by kernel_rfl
theorem t76_zv : zval Go.Proofs.Try.prog 76 = some (.agg (List.replicate 4 (.int .i64 0))) := by kernel_rfl
theorem t79_sz : sizeT Go.Proofs.Try.prog 79 = some 1 := by kernel_rfl
theorem t79_by : bytesT Go.Proofs.Try.prog 79 = some 8 := by kernel_rfl
theorem t79_z : zav Go.Proofs.Try.prog 79 = some [.nilp] := by kernel_rfl
theorem t79_d : dflt Go.Proofs.Try.prog 79 = .nilp := by kernel_rfl
theorem t79_zv : zval Go.Proofs.Try.prog 79 = some (.nilp) := by kernel_rfl
theorem t82_sz : sizeT Go.Proofs.Try.prog 82 = some 5 := by kernel_rfl
theorem t82_z : zav Go.Proofs.Try.prog 82 = some [.int .i64 0, .int .u8 0, .int .i64 0, .int .i64 0, .int .i64 0] := by kernel_rfl
theorem t82_zv : zval Go.Proofs.Try.prog 82 = some (.agg [.int .i64 0, .int .u8 0, .int .i64 0, .int .i64 0, .int .i64 0]) := by kernel_rfl
theorem t82_f0 : fieldT Go.Proofs.Try.prog 82 0 = some (0, 3) := by kernel_rfl
theorem t82_f1 : fieldT Go.Proofs.Try.prog 82 1 = some (1, 5) := by kernel_rfl
theorem t82_f2 : fieldT Go.Proofs.Try.prog 82 2 = some (2, 3) := by kernel_rfl
theorem t82_f3 : fieldT Go.Proofs.Try.prog 82 3 = some (3, 3) := by kernel_rfl
theorem t82_f4 : fieldT Go.Proofs.Try.prog 82 4 = some (4, 3) := by kernel_rfl
theorem t82_pl : placesT Go.Proofs.Try.prog 82 = some [(0, 1), (1, 1), (2, 1), (3, 1), (4, 1)] := by kernel_rfl
theorem t83_sz : sizeT Go.Proofs.Try.prog 83 = some 5 := by kernel_rfl
theorem t83_z : zav Go.Proofs.Try.prog 83 = some [.int .i64 0, .int .u8 0, .int .i64 0, .int .i64 0, .int .i64 0] := by kernel_rfl
theorem t83_zv : zval Go.Proofs.Try.prog 83 = some (.agg [.int .i64 0, .int .u8 0, .int .i64 0, .int .i64 0, .int .i64 0]) := by kernel_rfl
theorem t83_f0 : fieldT Go.Proofs.Try.prog 83 0 = some (0, 3) := by kernel_rfl
theorem t83_f1 : fieldT Go.Proofs.Try.prog 83 1 = some (1, 5) := by kernel_rfl
theorem t83_f2 : fieldT Go.Proofs.Try.prog 83 2 = some (2, 3) := by kernel_rfl
theorem t83_f3 : fieldT Go.Proofs.Try.prog 83 3 = some (3, 3) := by kernel_rfl
theorem t83_f4 : fieldT Go.Proofs.Try.prog 83 4 = some (4, 3) := by kernel_rfl
theorem t83_pl : placesT Go.Proofs.Try.prog 83 = some [(0, 1), (1, 1), (2, 1), (3, 1), (4, 1)] := by kernel_rfl
theorem t89_sz : sizeT Go.Proofs.Try.prog 89 = some 1 := by kernel_rfl
theorem t89_by : bytesT Go.Proofs.Try.prog 89 = some 24 := by kernel_rfl
theorem t89_z : zav Go.Proofs.Try.prog 89 = some [.nils] := by kernel_rfl
theorem t89_d : dflt Go.Proofs.Try.prog 89 = .nils := by kernel_rfl
theorem t89_zv : zval Go.Proofs.Try.prog 89 = some (.nils) := by kernel_rfl
theorem t90_sz : sizeT Go.Proofs.Try.prog 90 = some 1 := by kernel_rfl
theorem t90_by : bytesT Go.Proofs.Try.prog 90 = some 8 := by kernel_rfl
theorem t90_z : zav Go.Proofs.Try.prog 90 = some [.nilf] := by kernel_rfl
theorem t90_d : dflt Go.Proofs.Try.prog 90 = .nilf := by kernel_rfl
theorem t90_zv : zval Go.Proofs.Try.prog 90 = some (.nilf) := by kernel_rfl
theorem t91_sz : sizeT Go.Proofs.Try.prog 91 = some 1 := by kernel_rfl
theorem t91_by : bytesT Go.Proofs.Try.prog 91 = some 24 := by kernel_rfl
theorem t91_z : zav Go.Proofs.Try.prog 91 = some [.nils] := by kernel_rfl
theorem t91_d : dflt Go.Proofs.Try.prog 91 = .nils := by kernel_rfl
theorem t91_zv : zval Go.Proofs.Try.prog 91 = some (.nils) := by kernel_rfl
theorem t92_sz : sizeT Go.Proofs.Try.prog 92 = some 1 := by kernel_rfl
theorem t92_by : bytesT Go.Proofs.Try.prog 92 = some 8 := by kernel_rfl
theorem t92_z : zav Go.Proofs.Try.prog 92 = some [.nilp] := by kernel_rfl
theorem t92_d : dflt Go.Proofs.Try.prog 92 = .nilp := by kernel_rfl
theorem t92_zv : zval Go.Proofs.Try.prog 92 = some (.nilp) := by kernel_rfl
theorem t96_sz : sizeT Go.Proofs.Try.prog 96 = some 1 := by kernel_rfl
theorem t96_by : bytesT Go.Proofs.Try.prog 96 = some 8 := by kernel_rfl
theorem t96_z : zav Go.Proofs.Try.prog 96 = some [.nilp] := by kernel_rfl
theorem t96_d : dflt Go.Proofs.Try.prog 96 = .nilp := by kernel_rfl
theorem t96_zv : zval Go.Proofs.Try.prog 96 = some (.nilp) := by kernel_rfl
theorem t97_sz : sizeT Go.Proofs.Try.prog 97 = some 3 := by kernel_rfl
theorem t97_z : zav Go.Proofs.Try.prog 97 = some [.nils, .int .i64 0, .int .i64 0] := by kernel_rfl
theorem t97_zv : zval Go.Proofs.Try.prog 97 = some (.agg [.nils, .int .i64 0, .int .i64 0]) := by kernel_rfl
theorem t97_f0 : fieldT Go.Proofs.Try.prog 97 0 = some (0, 91) := by kernel_rfl
theorem t97_f1 : fieldT Go.Proofs.Try.prog 97 1 = some (1, 3) := by kernel_rfl
theorem t97_f2 : fieldT Go.Proofs.Try.prog 97 2 = some (2, 3) := by kernel_rfl
theorem t97_pl : placesT Go.Proofs.Try.prog 97 = some [(0, 1), (1, 1), (2, 1)] := by kernel_rfl
theorem t98_sz : sizeT Go.Proofs.Try.prog 98 = some 3 := by kernel_rfl
theorem t98_z : zav Go.Proofs.Try.prog 98 = some [.nils, .int .i64 0, .int .i64 0] := by kernel_rfl
theorem t98_zv : zval Go.Proofs.Try.prog 98 = some (.agg [.nils, .int .i64 0, .int .i64 0]) := by kernel_rfl
theorem t98_f0 : fieldT Go.Proofs.Try.prog 98 0 = some (0, 91) := by kernel_rfl
theorem t98_f1 : fieldT Go.Proofs.Try.prog 98 1 = some (1, 3) := by kernel_rfl
theorem t98_f2 : fieldT Go.Proofs.Try.prog 98 2 = some (2, 3) := by kernel_rfl
theorem t98_pl : placesT Go.Proofs.Try.prog 98 = some [(0, 1), (1, 1), (2, 1)] := by kernel_rfl
theorem t106_sz : sizeT Go.Proofs.Try.prog 106 = some 1 := by kernel_rfl
theorem t106_by : bytesT Go.Proofs.Try.prog 106 = some 8 := by kernel_rfl
theorem t106_z : zav Go.Proofs.Try.prog 106 = some [.nilf] := by kernel_rfl
theorem t106_d : dflt Go.Proofs.Try.prog 106 = .nilf := by kernel_rfl
theorem t106_zv : zval Go.Proofs.Try.prog 106 = some (.nilf) := by kernel_rfl
theorem t107_sz : sizeT Go.Proofs.Try.prog 107 = some 1 := by kernel_rfl
theorem t107_by : bytesT Go.Proofs.Try.prog 107 = some 8 := by kernel_rfl
theorem t107_z : zav Go.Proofs.Try.prog 107 = some [.nilf] := by kernel_rfl
theorem t107_d : dflt Go.Proofs.Try.prog 107 = .nilf := by kernel_rfl
theorem t107_zv : zval Go.Proofs.Try.prog 107 = some (.nilf) := by kernel_rfl
theorem t109_sz : sizeT Go.Proofs.Try.prog 109 = some 1 := by kernel_rfl
theorem t109_by : bytesT Go.Proofs.Try.prog 109 = some 8 := by kernel_rfl
theorem t109_z : zav Go.Proofs.Try.prog 109 = some [.nilm] := by kernel_rfl
theorem t109_d : dflt Go.Proofs.Try.prog 109 = .nilm := by kernel_rfl
theorem t109_zv : zval Go.Proofs.Try.prog 109 = some (.nilm) := by kernel_rfl
theorem t110_sz : sizeT Go.Proofs.Try.prog 110 = some 4 := by kernel_rfl
theorem t110_z : zav Go.Proofs.Try.prog 110 = some [.nils, .int .i64 0, .int .i64 0, .nilm] := by kernel_rfl
theorem t110_zv : zval Go.Proofs.Try.prog 110 = some (.agg [.nils, .int .i64 0, .int .i64 0, .nilm]) := by kernel_rfl
theorem t110_f0 : fieldT Go.Proofs.Try.prog 110 0 = some (0, 23) := by kernel_rfl
theorem t110_f1 : fieldT Go.Proofs.Try.prog 110 1 = some (1, 3) := by kernel_rfl
theorem t110_f2 : fieldT Go.Proofs.Try.prog 110 2 = some (2, 3) := by kernel_rfl
theorem t110_f3 : fieldT Go.Proofs.Try.prog 110 3 = some (3, 109) := by kernel_rfl
theorem t110_pl : placesT Go.Proofs.Try.prog 110 = some [(0, 1), (1, 1), (2, 1), (3, 1)] := by kernel_rfl
theorem t111_sz : sizeT Go.Proofs.Try.prog 111 = some 4 := by kernel_rfl
theorem t111_z : zav Go.Proofs.Try.prog 111 = some [.nils, .int .i64 0, .int .i64 0, .nilm] := by kernel_rfl
theorem t111_zv : zval Go.Proofs.Try.prog 111 = some (.agg [.nils, .int .i64 0, .int .i64 0, .nilm]) := by kernel_rfl
theorem t111_f0 : fieldT Go.Proofs.Try.prog 111 0 = some (0, 23) := by kernel_rfl
theorem t111_f1 : fieldT Go.Proofs.Try.prog 111 1 = some (1, 3) := by kernel_rfl
theorem t111_f2 : fieldT Go.Proofs.Try.prog 111 2 = some (2, 3) := by kernel_rfl
theorem t111_f3 : fieldT Go.Proofs.Try.prog 111 3 = some (3, 109) := by kernel_rfl
theorem t111_pl : placesT Go.Proofs.Try.prog 111 = some [(0, 1), (1, 1), (2, 1), (3, 1)] := by kernel_rfl
theorem t112_sz : sizeT Go.Proofs.Try.prog 112 = some 2 := by kernel_rfl
theorem t112_by : bytesT Go.Proofs.Try.prog 112 = some 2 := by kernel_rfl
theorem t112_z : zav Go.Proofs.Try.prog 112 = some (List.replicate 2 (.int .u8 0)) := by kernel_rfl
theorem t112_zv : zval Go.Proofs.Try.prog 112 = some (.agg (List.replicate 2 (.int .u8 0))) := by kernel_rfl
theorem t113_sz : sizeT Go.Proofs.Try.prog 113 = some 2 := by kernel_rfl
theorem t113_by : bytesT Go.Proofs.Try.prog 113 = some 2 := by kernel_rfl
theorem t113_z : zav Go.Proofs.Try.prog 113 = some (List.replicate 2 (.int .u8 0)) := by kernel_rfl
theorem t113_zv : zval Go.Proofs.Try.prog 113 = some (.agg (List.replicate 2 (.int .u8 0))) := by kernel_rfl
theorem t117_sz : sizeT Go.Proofs.Try.prog 117 = some 1 := by kernel_rfl
theorem t117_by : bytesT Go.Proofs.Try.prog 117 = some 8 := by kernel_rfl
theorem t117_z : zav Go.Proofs.Try.prog 117 = some [.int .u64 0] := by kernel_rfl
theorem t117_d : dflt Go.Proofs.Try.prog 117 = .int .u64 0 := by kernel_rfl
theorem t117_zv : zval Go.Proofs.Try.prog 117 = some (.int .u64 0) := by kernel_rfl
theorem t118_sz : sizeT Go.Proofs.Try.prog 118 = some 4 := by kernel_rfl
theorem t118_z : zav Go.Proofs.Try.prog 118 = some [.nils, .int .u32 0, .int .u32 0, .bool false] := by kernel_rfl
theorem t118_zv : zval Go.Proofs.Try.prog 118 = some (.agg [.nils, .int .u32 0, .int .u32 0, .bool false]) := by kernel_rfl
theorem t118_f0 : fieldT Go.Proofs.Try.prog 118 0 = some (0, 23) := by kernel_rfl
theorem t118_f1 : fieldT Go.Proofs.Try.prog 118 1 = some (1, 53) := by kernel_rfl
theorem t118_f2 : fieldT Go.Proofs.Try.prog 118 2 = some (2, 53) := by kernel_rfl
theorem t118_f3 : fieldT Go.Proofs.Try.prog 118 3 = some (3, 4) := by kernel_rfl
theorem t118_pl : placesT Go.Proofs.Try.prog 118 = some [(0, 1), (1, 1), (2, 1), (3, 1)] := by kernel_rfl
theorem t119_sz : sizeT Go.Proofs.Try.prog 119 = some 4 := by kernel_rfl
theorem t119_z : zav Go.Proofs.Try.prog 119 = some [.nils, .int .u32 0, .int .u32 0, .bool false] := by kernel_rfl
theorem t119_zv : zval Go.Proofs.Try.prog 119 = some (.agg [.nils, .int .u32 0, .int .u32 0, .bool false]) := by kernel_rfl
theorem t119_f0 : fieldT Go.Proofs.Try.prog 119 0 = some (0, 23) := by kernel_rfl
theorem t119_f1 : fieldT Go.Proofs.Try.prog 119 1 = some (1, 53) := by kernel_rfl
theorem t119_f2 : fieldT Go.Proofs.Try.prog 119 2 = some (2, 53) := by kernel_rfl
theorem t119_f3 : fieldT Go.Proofs.Try.prog 119 3 = some (3, 4) := by kernel_rfl
theorem t119_pl : placesT Go.Proofs.Try.prog 119 = some [(0, 1), (1, 1), (2, 1), (3, 1)] := by kernel_rfl
theorem t123_sz : sizeT Go.Proofs.Try.prog 123 = some 5 := by kernel_rfl
theorem t123_z : zav Go.Proofs.Try.prog 123 = some [.int .u64 0, .int .u32 0, .int .u8 0, .int .i64 0, .nils] := by kernel_rfl
theorem t123_zv : zval Go.Proofs.Try.prog 123 = some (.agg [.int .u64 0, .int .u32 0, .int .u8 0, .int .i64 0, .nils]) := by kernel_rfl
theorem t123_f0 : fieldT Go.Proofs.Try.prog 123 0 = some (0, 22) := by kernel_rfl
theorem t123_f1 : fieldT Go.Proofs.Try.prog 123 1 = some (1, 53) := by kernel_rfl
theorem t123_f2 : fieldT Go.Proofs.Try.prog 123 2 = some (2, 5) := by kernel_rfl
theorem t123_f3 : fieldT Go.Proofs.Try.prog 123 3 = some (3, 3) := by kernel_rfl
theorem t123_f4 : fieldT Go.Proofs.Try.prog 123 4 = some (4, 23) := by kernel_rfl
theorem t123_pl : placesT Go.Proofs.Try.prog 123 = some [(0, 1), (1, 1), (2, 1), (3, 1), (4, 1)] := by kernel_rfl
theorem t124_sz : sizeT Go.Proofs.Try.prog 124 = some 5 := by kernel_rfl
theorem t124_z : zav Go.Proofs.Try.prog 124 = some [.int .u64 0, .int .u32 0, .int .u8 0, .int .i64 0, .nils] := by kernel_rfl
theorem t124_zv : zval Go.Proofs.Try.prog 124 = some (.agg [.int .u64 0, .int .u32 0, .int .u8 0, .int .i64 0, .nils]) := by kernel_rfl
theorem t124_f0 : fieldT Go.Proofs.Try.prog 124 0 = some (0, 22) := by kernel_rfl
theorem t124_f1 : fieldT Go.Proofs.Try.prog 124 1 = some (1, 53) := by kernel_rfl
theorem t124_f2 : fieldT Go.Proofs.Try.prog 124 2 = some (2, 5) := by kernel_rfl
theorem t124_f3 : fieldT Go.Proofs.Try.prog 124 3 = some (3, 3) := by kernel_rfl
theorem t124_f4 : fieldT Go.Proofs.Try.prog 124 4 = some (4, 23) := by kernel_rfl
theorem t124_pl : placesT Go.Proofs.Try.prog 124 = some [(0, 1), (1, 1), (2, 1), (3, 1), (4, 1)] := by kernel_rfl
theorem t125_sz : sizeT Go.Proofs.Try.prog 125 = some 2 := by kernel_rfl
theorem t125_z : zav Go.Proofs.Try.prog 125 = some [.nils, .int .u64 0] := by kernel_rfl
theorem t125_zv : zval Go.Proofs.Try.prog 125 = some (.agg [.nils, .int .u64 0]) := by kernel_rfl
theorem t125_f0 : fieldT Go.Proofs.Try.prog 125 0 = some (0, 23) := by kernel_rfl
theorem t125_f1 : fieldT Go.Proofs.Try.prog 125 1 = some (1, 22) := by kernel_rfl
theorem t125_pl : placesT Go.Proofs.Try.prog 125 = some [(0, 1), (1, 1)] := by kernel_rfl
theorem t126_sz : sizeT Go.Proofs.Try.prog 126 = some 2 := by kernel_rfl
theorem t126_z : zav Go.Proofs.Try.prog 126 = some [.nils, .int .u64 0] := by kernel_rfl
theorem t126_zv : zval Go.Proofs.Try.prog 126 = some (.agg [.nils, .int .u64 0]) := by kernel_rfl
theorem t126_f0 : fieldT Go.Proofs.Try.prog 126 0 = some (0, 23) := by kernel_rfl
theorem t126_f1 : fieldT Go.Proofs.Try.prog 126 1 = some (1, 22) := by kernel_rfl
theorem t126_pl : placesT Go.Proofs.Try.prog 126 = some [(0, 1), (1, 1)] := by kernel_rfl
theorem t128_sz : sizeT Go.Proofs.Try.prog 128 = some 1 := by kernel_rfl
theorem t128_by : bytesT Go.Proofs.Try.prog 128 = some 8 := by kernel_rfl
theorem t128_z : zav Go.Proofs.Try.prog 128 = some [.nilp] := by kernel_rfl
theorem t128_d : dflt Go.Proofs.Try.prog 128 = .nilp := by kernel_rfl
theorem t128_zv : zval Go.Proofs.Try.prog 128 = some (.nilp) := by kernel_rfl
theorem t129_sz : sizeT Go.Proofs.Try.prog 129 = some 5 := by kernel_rfl
theorem t129_z : zav Go.Proofs.Try.prog 129 = some ([.nilp] ++ (List.replicate 4 (.int .i64 0))) := by kernel_rfl
theorem t129_zv : zval Go.Proofs.Try.prog 129 = some (.agg ([.nilp] ++ (List.replicate 4 (.int .i64 0)))) := by kernel_rfl
theorem t129_f0 : fieldT Go.Proofs.Try.prog 129 0 = some (0, 35) := by kernel_rfl
theorem t129_f1 : fieldT Go.Proofs.Try.prog 129 1 = some (1, 76) := by kernel_rfl
theorem t129_pl : placesT Go.Proofs.Try.prog 129 = some [(0, 1), (1, 4)] := by kernel_rfl
theorem t130_sz : sizeT Go.Proofs.Try.prog 130 = some 5 := by kernel_rfl
theorem t130_z : zav Go.Proofs.Try.prog 130 = some ([.nilp] ++ (List.replicate 4 (.int .i64 0))) := by kernel_rfl
theorem t130_zv : zval Go.Proofs.Try.prog 130 = some (.agg ([.nilp] ++ (List.replicate 4 (.int .i64 0)))) := by kernel_rfl
theorem t130_f0 : fieldT Go.Proofs.Try.prog 130 0 = some (0, 35) := by kernel_rfl
theorem t130_f1 : fieldT Go.Proofs.Try.prog 130 1 = some (1, 76) := by kernel_rfl
theorem t130_pl : placesT Go.Proofs.Try.prog 130 = some [(0, 1), (1, 4)] := by kernel_rfl
theorem t132_sz : sizeT Go.Proofs.Try.prog 132 = some 1 := by kernel_rfl
theorem t132_by : bytesT Go.Proofs.Try.prog 132 = some 24 := by kernel_rfl
theorem t132_z : zav Go.Proofs.Try.prog 132 = some [.nils] := by kernel_rfl
theorem t132_d : dflt Go.Proofs.Try.prog 132 = .nils := by kernel_rfl
theorem t132_zv : zval Go.Proofs.Try.prog 132 = some (.nils) := by kernel_rfl
theorem t133_sz : sizeT Go.Proofs.Try.prog 133 = some 6 := by kernel_rfl
theorem t133_z : zav Go.Proofs.Try.prog 133 = some [.int .i64 0, .int .i64 0, .int .i64 0, .int .i64 0, .nils, .nils] := by kernel_rfl
theorem t133_zv : zval Go.Proofs.Try.prog 133 = some (.agg [.int .i64 0, .int .i64 0, .int .i64 0, .int .i64 0, .nils, .nils]) := by kernel_rfl
theorem t133_f0 : fieldT Go.Proofs.Try.prog 133 0 = some (0, 3) := by kernel_rfl
theorem t133_f1 : fieldT Go.Proofs.Try.prog 133 1 = some (1, 3) := by kernel_rfl
theorem t133_f2 : fieldT Go.Proofs.Try.prog 133 2 = some (2, 3) := by kernel_rfl
theorem t133_f3 : fieldT Go.Proofs.Try.prog 133 3 = some (3, 3) := by kernel_rfl
theorem t133_f4 : fieldT Go.Proofs.Try.prog 133 4 = some (4, 91) := by kernel_rfl
theorem t133_f5 : fieldT Go.Proofs.Try.prog 133 5 = some (5, 132) := by kernel_rfl
theorem t133_pl : placesT Go.Proofs.Try.prog 133 = some [(0, 1), (1, 1), (2, 1), (3, 1), (4, 1), (5, 1)] := by kernel_rfl
theorem t134_sz : sizeT Go.Proofs.Try.prog 134 = some 6 := by kernel_rfl
theorem t134_z : zav Go.Proofs.Try.prog 134 = some [.int .i64 0, .int .i64 0, .int .i64 0, .int .i64 0, .nils, .nils] := by kernel_rfl
theorem t134_zv : zval Go.Proofs.Try.prog 134 = some (.agg [.int .i64 0, .int .i64 0, .int .i64 0, .int .i64 0, .nils, .nils]) := by kernel_rfl
theorem t134_f0 : fieldT Go.Proofs.Try.prog 134 0 = some (0, 3) := by kernel_rfl
theorem t134_f1 : fieldT Go.Proofs.Try.prog 134 1 = some (1, 3) := by kernel_rfl
theorem t134_f2 : fieldT Go.Proofs.Try.prog 134 2 = some (2, 3) := by kernel_rfl
theorem t134_f3 : fieldT Go.Proofs.Try.prog 134 3 = some (3, 3) := by kernel_rfl
theorem t134_f4 : fieldT Go.Proofs.Try.prog 134 4 = some (4, 91) := by kernel_rfl
theorem t134_f5 : fieldT Go.Proofs.Try.prog 134 5 = some (5, 132) := by kernel_rfl
theorem t134_pl : placesT Go.Proofs.Try.prog 134 = some [(0, 1), (1, 1), (2, 1), (3, 1), (4, 1), (5, 1)] := by kernel_rfl
theorem t135_sz : sizeT Go.Proofs.Try.prog 135 = some 1 := by kernel_rfl
theorem t135_by : bytesT Go.Proofs.Try.prog 135 = some 8 := by kernel_rfl
theorem t135_z : zav Go.Proofs.Try.prog 135 = some [.nilf] := by kernel_rfl
theorem t135_d : dflt Go.Proofs.Try.prog 135 = .nilf := by kernel_rfl
theorem t135_zv : zval Go.Proofs.Try.prog 135 = some (.nilf) := by kernel_rfl
theorem t137_sz : sizeT Go.Proofs.Try.prog 137 = some 1 := by kernel_rfl
theorem t137_by : bytesT Go.Proofs.Try.prog 137 = some 8 := by kernel_rfl
theorem t137_z : zav Go.Proofs.Try.prog 137 = some [.nilm] := by kernel_rfl
theorem t137_d : dflt Go.Proofs.Try.prog 137 = .nilm := by kernel_rfl
theorem t137_zv : zval Go.Proofs.Try.prog 137 = some (.nilm) := by kernel_rfl
theorem t138_sz : sizeT Go.Proofs.Try.prog 138 = some 7 := by kernel_rfl
theorem t138_z : zav Go.Proofs.Try.prog 138 = some [.int .i64 0, .int .i64 0, .int .i64 0, .nils, .nils, .nilm, .nils] := by kernel_rfl
theorem t138_zv : zval Go.Proofs.Try.prog 138 = some (.agg [.int .i64 0, .int .i64 0, .int .i64 0, .nils, .nils, .nilm, .nils]) := by kernel_rfl
theorem t138_f0 : fieldT Go.Proofs.Try.prog 138 0 = some (0, 3) := by kernel_rfl
theorem t138_f1 : fieldT Go.Proofs.Try.prog 138 1 = some (1, 3) := by kernel_rfl
theorem t138_f2 : fieldT Go.Proofs.Try.prog 138 2 = some (2, 3) := by kernel_rfl
theorem t138_f3 : fieldT Go.Proofs.Try.prog 138 3 = some (3, 91) := by kernel_rfl
theorem t138_f4 : fieldT Go.Proofs.Try.prog 138 4 = some (4, 91) := by kernel_rfl
theorem t138_f5 : fieldT Go.Proofs.Try.prog 138 5 = some (5, 137) := by kernel_rfl
theorem t138_f6 : fieldT Go.Proofs.Try.prog 138 6 = some (6, 91) := by kernel_rfl
theorem t138_pl : placesT Go.Proofs.Try.prog 138 = some [(0, 1), (1, 1), (2, 1), (3, 1), (4, 1), (5, 1), (6, 1)] := by kernel_rfl
theorem t139_sz : sizeT Go.Proofs.Try.prog 139 = some 7 := by kernel_rfl
theorem t139_z : zav Go.Proofs.Try.prog 139 = some [.int .i64 0, .int .i64 0, .int .i64 0, .nils, .nils, .nilm, .nils] := by kernel_rfl
theorem t139_zv : zval Go.Proofs.Try.prog 139 = some (.agg [.int .i64 0, .int .i64 0, .int .i64 0, .nils, .nils, .nilm, .nils]) := by kernel_rfl
theorem t139_f0 : fieldT Go.Proofs.Try.prog 139 0 = some (0, 3) := by kernel_rfl
theorem t139_f1 : fieldT Go.Proofs.Try.prog 139 1 = some (1, 3) := by kernel_rfl
theorem t139_f2 : fieldT Go.Proofs.Try.prog 139 2 = some (2, 3) := by kernel_rfl
theorem t139_f3 : fieldT Go.Proofs.Try.prog 139 3 = some (3, 91) := by kernel_rfl
theorem t139_f4 : fieldT Go.Proofs.Try.prog 139 4 = some (4, 91) := by kernel_rfl
theorem t139_f5 : fieldT Go.Proofs.Try.prog 139 5 = some (5, 137) := by kernel_rfl
theorem t139_f6 : fieldT Go.Proofs.Try.prog 139 6 = some (6, 91) := by kernel_rfl
theorem t139_pl : placesT Go.Proofs.Try.prog 139 = some [(0, 1), (1, 1), (2, 1), (3, 1), (4, 1), (5, 1), (6, 1)] := by kernel_rfl
theorem t144_sz : sizeT Go.Proofs.Try.prog 144 = some 1 := by kernel_rfl
theorem t144_by : bytesT Go.Proofs.Try.prog 144 = some 8 := by kernel_rfl
theorem t144_z : zav Go.Proofs.Try.prog 144 = some [.nilf] := by kernel_rfl
theorem t144_d : dflt Go.Proofs.Try.prog 144 = .nilf := by kernel_rfl
theorem t144_zv : zval Go.Proofs.Try.prog 144 = some (.nilf) := by kernel_rfl
theorem t145_sz : sizeT Go.Proofs.Try.prog 145 = some 1 := by kernel_rfl
theorem t145_by : bytesT Go.Proofs.Try.prog 145 = some 8 := by kernel_rfl
theorem t145_z : zav Go.Proofs.Try.prog 145 = some [.nilf] := by kernel_rfl
theorem t145_d : dflt Go.Proofs.Try.prog 145 = .nilf := by kernel_rfl
theorem t145_zv : zval Go.Proofs.Try.prog 145 = some (.nilf) := by kernel_rfl
theorem t146_sz : sizeT Go.Proofs.Try.prog 146 = some 1 := by kernel_rfl
theorem t146_by : bytesT Go.Proofs.Try.prog 146 = some 8 := by kernel_rfl
theorem t146_z : zav Go.Proofs.Try.prog 146 = some [.nilf] := by kernel_rfl
theorem t146_d : dflt Go.Proofs.Try.prog 146 = .nilf := by kernel_rfl
theorem t146_zv : zval Go.Proofs.Try.prog 146 = some (.nilf) := by kernel_rfl
theorem en3 : enters Go.Proofs.Try.prog 3 = true := by kernel_rfl
theorem en4 : enters Go.Proofs.Try.prog 4 = true := by kernel_rfl
theorem en5 : enters Go.Proofs.Try.prog 5 = true := by kernel_rfl
theorem en6 : enters Go.Proofs.Try.prog 6 = true := by kernel_rfl
theorem en7 : enters Go.Proofs.Try.prog 7 = true := by kernel_rfl
theorem en8 : enters Go.Proofs.Try.prog 8 = true := by kernel_rfl
theorem en9 : enters Go.Proofs.Try.prog 9 = true := by kernel_rfl
theorem en10 : enters Go.Proofs.Try.prog 10 = true := by kernel_rfl
theorem en11 : enters Go.Proofs.Try.prog 11 = true := by kernel_rfl
theorem en12 : enters Go.Proofs.Try.prog 12 = true := by kernel_rfl
theorem en13 : enters Go.Proofs.Try.prog 13 = true := by kernel_rfl
theorem en14 : enters Go.Proofs.Try.prog 14 = true := by kernel_rfl
theorem en15 : enters Go.Proofs.Try.prog 15 = true := by kernel_rfl
theorem en16 : enters Go.Proofs.Try.prog 16 = true := by kernel_rfl
theorem en17 : enters Go.Proofs.Try.prog 17 = true := by kernel_rfl
theorem en18 : enters Go.Proofs.Try.prog 18 = true := by kernel_rfl
theorem en19 : enters Go.Proofs.Try.prog 19 = true := by kernel_rfl
theorem en20 : enters Go.Proofs.Try.prog 20 = true := by kernel_rfl
theorem en21 : enters Go.Proofs.Try.prog 21 = true := by kernel_rfl
theorem en22 : enters Go.Proofs.Try.prog 22 = true := by kernel_rfl
theorem en23 : enters Go.Proofs.Try.prog 23 = true := by kernel_rfl
theorem en24 : enters Go.Proofs.Try.prog 24 = true := by kernel_rfl
theorem en25 : enters Go.Proofs.Try.prog 25 = true := by kernel_rfl
theorem en26 : enters Go.Proofs.Try.prog 26 = true := by kernel_rfl
theorem en27 : enters Go.Proofs.Try.prog 27 = true := by kernel_rfl
theorem en28 : enters Go.Proofs.Try.prog 28 = true := by kernel_rfl
theorem en29 : enters Go.Proofs.Try.prog 29 = true := by kernel_rfl
theorem en30 : enters Go.Proofs.Try.prog 30 = true := by kernel_rfl
theorem en31 : enters Go.Proofs.Try.prog 31 = true := by kernel_rfl
theorem en32 : enters Go.Proofs.Try.prog 32 = true := by kernel_rfl
theorem en33 : enters Go.Proofs.Try.prog 33 = true := by kernel_rfl
theorem en34 : enters Go.Proofs.Try.prog 34 = true := by kernel_rfl
theorem en35 : enters Go.Proofs.Try.prog 35 = true := by kernel_rfl
theorem en36 : enters Go.Proofs.Try.prog 36 = true := by kernel_rfl
theorem en37 : enters Go.Proofs.Try.prog 37 = true := by kernel_rfl
theorem en38 : enters Go.Proofs.Try.prog 38 = true := by kernel_rfl
theorem en39 : enters Go.Proofs.Try.prog 39 = true := by kernel_rfl
theorem en40 : enters Go.Proofs.Try.prog 40 = true := by kernel_rfl
theorem en41 : enters Go.Proofs.Try.prog 41 = true := by kernel_rfl
theorem en42 : enters Go.Proofs.Try.prog 42 = true := by kernel_rfl
theorem en43 : enters Go.Proofs.Try.prog 43 = true := by kernel_rfl
theorem en44 : enters Go.Proofs.Try.prog 44 = true := by kernel_rfl
theorem en45 : enters Go.Proofs.Try.prog 45 = true := by kernel_rfl
theorem en46 : enters Go.Proofs.Try.prog 46 = true := by kernel_rfl
theorem en47 : enters Go.Proofs.Try.prog 47 = true := by kernel_rfl
theorem en48 : enters Go.Proofs.Try.prog 48 = true := by kernel_rfl
theorem en49 : enters Go.Proofs.Try.prog 49 = true := by kernel_rfl
theorem en50 : enters Go.Proofs.Try.prog 50 = true := by kernel_rfl
theorem en51 : enters Go.Proofs.Try.prog 51 = true := by kernel_rfl
theorem en52 : enters Go.Proofs.Try.prog 52 = true := by kernel_rfl
theorem en53 : enters Go.Proofs.Try.prog 53 = true := by kernel_rfl
theorem en54 : enters Go.Proofs.Try.prog 54 = true := by kernel_rfl
theorem en55 : enters Go.Proofs.Try.prog 55 = true := by kernel_rfl
theorem en56 : enters Go.Proofs.Try.prog 56 = true := by kernel_rfl
theorem en57 : enters Go.Proofs.Try.prog 57 = true := by kernel_rfl
theorem en58 : enters Go.Proofs.Try.prog 58 = true := by kernel_rfl
theorem en59 : enters Go.Proofs.Try.prog 59 = true := by kernel_rfl
theorem en60 : enters Go.Proofs.Try.prog 60 = true := by kernel_rfl
theorem en61 : enters Go.Proofs.Try.prog 61 = true := by kernel_rfl
theorem en62 : enters Go.Proofs.Try.prog 62 = true := by kernel_rfl
theorem en63 : enters Go.Proofs.Try.prog 63 = true := by kernel_rfl
theorem en64 : enters Go.Proofs.Try.prog 64 = true := by kernel_rfl
theorem en65 : enters Go.Proofs.Try.prog 65 = true := by kernel_rfl
theorem en66 : enters Go.Proofs.Try.prog 66 = true := by kernel_rfl
theorem en67 : enters Go.Proofs.Try.prog 67 = true := by kernel_rfl
theorem en68 : enters Go.Proofs.Try.prog 68 = true := by kernel_rfl
theorem en69 : enters Go.Proofs.Try.prog 69 = true := by kernel_rfl
theorem en70 : enters Go.Proofs.Try.prog 70 = true := by kernel_rfl
theorem en71 : enters Go.Proofs.Try.prog 71 = true := by kernel_rfl
theorem en72 : enters Go.Proofs.Try.prog 72 = true := by kernel_rfl
theorem en73 : enters Go.Proofs.Try.prog 73 = true := by kernel_rfl
theorem en74 : enters Go.Proofs.Try.prog 74 = true := by kernel_rfl
theorem en75 : enters Go.Proofs.Try.prog 75 = true := by kernel_rfl
theorem en76 : enters Go.Proofs.Try.prog 76 = true := by kernel_rfl
theorem en77 : enters Go.Proofs.Try.prog 77 = true := by kernel_rfl
theorem en78 : enters Go.Proofs.Try.prog 78 = true := by kernel_rfl
theorem en79 : enters Go.Proofs.Try.prog 79 = true := by kernel_rfl
theorem en80 : enters Go.Proofs.Try.prog 80 = true := by kernel_rfl
theorem en81 : enters Go.Proofs.Try.prog 81 = true := by kernel_rfl
theorem en82 : enters Go.Proofs.Try.prog 82 = true := by kernel_rfl
theorem en83 : enters Go.Proofs.Try.prog 83 = true := by kernel_rfl
theorem en84 : enters Go.Proofs.Try.prog 84 = true := by kernel_rfl
theorem en85 : enters Go.Proofs.Try.prog 85 = true := by kernel_rfl
theorem en86 : enters Go.Proofs.Try.prog 86 = true := by kernel_rfl
theorem en87 : enters Go.Proofs.Try.prog 87 = true := by kernel_rfl
theorem en88 : enters Go.Proofs.Try.prog 88 = true := by kernel_rfl
theorem en89 : enters Go.Proofs.Try.prog 89 = true := by kernel_rfl
theorem en90 : enters Go.Proofs.Try.prog 90 = true := by kernel_rfl
theorem en91 : enters Go.Proofs.Try.prog 91 = true := by kernel_rfl
theorem en92 : enters Go.Proofs.Try.prog 92 = true := by kernel_rfl
theorem en93 : enters Go.Proofs.Try.prog 93 = true := by kernel_rfl
theorem en94 : enters Go.Proofs.Try.prog 94 = true := by kernel_rfl
theorem en95 : enters Go.Proofs.Try.prog 95 = true := by kernel_rfl
theorem en96 : enters Go.Proofs.Try.prog 96 = true := by kernel_rfl
theorem en97 : enters Go.Proofs.Try.prog 97 = true := by kernel_rfl
theorem en98 : enters Go.Proofs.Try.prog 98 = true := by kernel_rfl
theorem en99 : enters Go.Proofs.Try.prog 99 = true := by kernel_rfl
theorem en100 : enters Go.Proofs.Try.prog 100 = true := by kernel_rfl
theorem t1 : type_of% (And.intro t1_k <| And.intro t1_a <| And.intro t1_if <| And.intro t1_fn <| And.intro t1_sz <| And.intro t1_by <| And.intro t1_z <| And.intro t1_d <| t1_zv) := And.intro t1_k <| And.intro t1_a <| And.intro t1_if <| And.intro t1_fn <| And.intro t1_sz <| And.intro t1_by <| And.intro t1_z <| And.intro t1_d <| t1_zv
theorem t2 : type_of% (And.intro t2_k <| And.intro t2_a <| And.intro t2_if <| And.intro t2_i <| And.intro t2_sz <| And.intro t2_by <| And.intro t2_z <| And.intro t2_d <| t2_zv) := And.intro t2_k <| And.intro t2_a <| And.intro t2_if <| And.intro t2_i <| And.intro t2_sz <| And.intro t2_by <| And.intro t2_z <| And.intro t2_d <| t2_zv
theorem t3 : type_of% (And.intro t3_k <| And.intro t3_a <| And.intro t3_if <| And.intro t3_i <| And.intro t3_sz <| And.intro t3_by <| And.intro t3_z <| And.intro t3_d <| t3_zv) := And.intro t3_k <| And.intro t3_a <| And.intro t3_if <| And.intro t3_i <| And.intro t3_sz <| And.intro t3_by <| And.intro t3_z <| And.intro t3_d <| t3_zv
theorem t4 : type_of% (And.intro t4_k <| And.intro t4_a <| And.intro t4_if <| And.intro t4_b <| And.intro t4_sz <| And.intro t4_by <| And.intro t4_z <| And.intro t4_d <| t4_zv) := And.intro t4_k <| And.intro t4_a <| And.intro t4_if <| And.intro t4_b <| And.intro t4_sz <| And.intro t4_by <| And.intro t4_z <| And.intro t4_d <| t4_zv
theorem t5 : type_of% (And.intro t5_k <| And.intro t5_a <| And.intro t5_if <| And.intro t5_i <| And.intro t5_sz <| And.intro t5_by <| And.intro t5_z <| And.intro t5_d <| t5_zv) := And.intro t5_k <| And.intro t5_a <| And.intro t5_if <| And.intro t5_i <| And.intro t5_sz <| And.intro t5_by <| And.intro t5_z <| And.intro t5_d <| t5_zv
theorem t6 : type_of% (And.intro t6_k <| And.intro t6_a <| And.intro t6_if <| And.intro t6_i <| And.intro t6_sz <| And.intro t6_by <| And.intro t6_z <| And.intro t6_d <| t6_zv) := And.intro t6_k <| And.intro t6_a <| And.intro t6_if <| And.intro t6_i <| And.intro t6_sz <| And.intro t6_by <| And.intro t6_z <| And.intro t6_d <| t6_zv
theorem t9 : type_of% (And.intro t9_k <| And.intro t9_a <| And.intro t9_if <| And.intro t9_s <| And.intro t9_sz <| And.intro t9_by <| And.intro t9_z <| And.intro t9_d <| t9_zv) := And.intro t9_k <| And.intro t9_a <| And.intro t9_if <| And.intro t9_s <| And.intro t9_sz <| And.intro t9_by <| And.intro t9_z <| And.intro t9_d <| t9_zv
theorem t20 : type_of% (And.intro t20_k <| And.intro t20_a <| And.intro t20_if <| And.intro t20_sz <| And.intro t20_by <| And.intro t20_z <| And.intro t20_d <| t20_zv) := And.intro t20_k <| And.intro t20_a <| And.intro t20_if <| And.intro t20_sz <| And.intro t20_by <| And.intro t20_z <| And.intro t20_d <| t20_zv
theorem t22 : type_of% (And.intro t22_k <| And.intro t22_a <| And.intro t22_if <| And.intro t22_i <| And.intro t22_sz <| And.intro t22_by <| And.intro t22_z <| And.intro t22_d <| t22_zv) := And.intro t22_k <| And.intro t22_a <| And.intro t22_if <| And.intro t22_i <| And.intro t22_sz <| And.intro t22_by <| And.intro t22_z <| And.intro t22_d <| t22_zv
theorem t23 : type_of% (And.intro t23_k <| And.intro t23_a <| And.intro t23_if <| And.intro t23_e <| And.intro t23_s <| And.intro t23_sz <| And.intro t23_by <| And.intro t23_z <| And.intro t23_d <| t23_zv) := And.intro t23_k <| And.intro t23_a <| And.intro t23_if <| And.intro t23_e <| And.intro t23_s <| And.intro t23_sz <| And.intro t23_by <| And.intro t23_z <| And.intro t23_d <| t23_zv
theorem t25 : type_of% (And.intro t25_k <| And.intro t25_a <| And.intro t25_if <| And.intro t25_i <| And.intro t25_sz <| And.intro t25_by <| And.intro t25_z <| And.intro t25_d <| t25_zv) := And.intro t25_k <| And.intro t25_a <| And.intro t25_if <| And.intro t25_i <| And.intro t25_sz <| And.intro t25_by <| And.intro t25_z <| And.intro t25_d <| t25_zv
theorem t35 : type_of% (And.intro t35_k <| And.intro t35_a <| And.intro t35_if <| And.intro t35_p <| And.intro t35_sz <| And.intro t35_by <| And.intro t35_z <| And.intro t35_d <| t35_zv) := And.intro t35_k <| And.intro t35_a <| And.intro t35_if <| And.intro t35_p <| And.intro t35_sz <| And.intro t35_by <| And.intro t35_z <| And.intro t35_d <| t35_zv
theorem t45 : type_of% (And.intro t45_k <| And.intro t45_a <| And.intro t45_if <| And.intro t45_e <| And.intro t45_s <| And.intro t45_sz <| And.intro t45_by <| And.intro t45_z <| And.intro t45_d <| t45_zv) := And.intro t45_k <| And.intro t45_a <| And.intro t45_if <| And.intro t45_e <| And.intro t45_s <| And.intro t45_sz <| And.intro t45_by <| And.intro t45_z <| And.intro t45_d <| t45_zv
theorem t46 : type_of% (And.intro t46_k <| And.intro t46_a <| And.intro t46_if <| And.intro t46_p <| And.intro t46_sz <| And.intro t46_by <| And.intro t46_z <| And.intro t46_d <| t46_zv) := And.intro t46_k <| And.intro t46_a <| And.intro t46_if <| And.intro t46_p <| And.intro t46_sz <| And.intro t46_by <| And.intro t46_z <| And.intro t46_d <| t46_zv
theorem t49 : type_of% (And.intro t49_k <| And.intro t49_a <| And.intro t49_if <| And.intro t49_p <| And.intro t49_sz <| And.intro t49_by <| And.intro t49_z <| And.intro t49_d <| t49_zv) := And.intro t49_k <| And.intro t49_a <| And.intro t49_if <| And.intro t49_p <| And.intro t49_sz <| And.intro t49_by <| And.intro t49_z <| And.intro t49_d <| t49_zv
theorem t52 : type_of% (And.intro t52_k <| And.intro t52_a <| And.intro t52_if <| And.intro t52_i <| And.intro t52_sz <| And.intro t52_by <| And.intro t52_z <| And.intro t52_d <| t52_zv) := And.intro t52_k <| And.intro t52_a <| And.intro t52_if <| And.intro t52_i <| And.intro t52_sz <| And.intro t52_by <| And.intro t52_z <| And.intro t52_d <| t52_zv
theorem t53 : type_of% (And.intro t53_k <| And.intro t53_a <| And.intro t53_if <| And.intro t53_i <| And.intro t53_sz <| And.intro t53_by <| And.intro t53_z <| And.intro t53_d <| t53_zv) := And.intro t53_k <| And.intro t53_a <| And.intro t53_if <| And.intro t53_i <| And.intro t53_sz <| And.intro t53_by <| And.intro t53_z <| And.intro t53_d <| t53_zv
theorem t54 : type_of% (And.intro t54_k <| And.intro t54_a <| And.intro t54_if <| And.intro t54_ea <| And.intro t54_sz <| And.intro t54_z <| And.intro t54_zv <| And.intro t54_f0 <| And.intro t54_f1 <| And.intro t54_f2 <| And.intro t54_f3 <| And.intro t54_f4 <| t54_pl) := And.intro t54_k <| And.intro t54_a <| And.intro t54_if <| And.intro t54_ea <| And.intro t54_sz <| And.intro t54_z <| And.intro t54_zv <| And.intro t54_f0 <| And.intro t54_f1 <| And.intro t54_f2 <| And.intro t54_f3 <| And.intro t54_f4 <| t54_pl
theorem t55 : type_of% (And.intro t55_k <| And.intro t55_a <| And.intro t55_if <| And.intro t55_ea <| And.intro t55_sz <| And.intro t55_z <| And.intro t55_zv <| And.intro t55_f0 <| And.intro t55_f1 <| And.intro t55_f2 <| And.intro t55_f3 <| And.intro t55_f4 <| t55_pl) := And.intro t55_k <| And.intro t55_a <| And.intro t55_if <| And.intro t55_ea <| And.intro t55_sz <| And.intro t55_z <| And.intro t55_zv <| And.intro t55_f0 <| And.intro t55_f1 <| And.intro t55_f2 <| And.intro t55_f3 <| And.intro t55_f4 <| t55_pl
theorem t62 : type_of% (And.intro t62_k <| And.intro t62_a <| And.intro t62_if <| And.intro t62_sz <| And.intro t62_z <| And.intro t62_zv <| And.intro t62_f0 <| And.intro t62_f1 <| And.intro t62_f2 <| And.intro t62_f3 <| And.intro t62_f4 <| t62_pl) := And.intro t62_k <| And.intro t62_a <| And.intro t62_if <| And.intro t62_sz <| And.intro t62_z <| And.intro t62_zv <| And.intro t62_f0 <| And.intro t62_f1 <| And.intro t62_f2 <| And.intro t62_f3 <| And.intro t62_f4 <| t62_pl
theorem t63 : type_of% (And.intro t63_k <| And.intro t63_a <| And.intro t63_if <| And.intro t63_sz <| And.intro t63_z <| And.intro t63_zv <| And.intro t63_f0 <| And.intro t63_f1 <| And.intro t63_f2 <| And.intro t63_f3 <| And.intro t63_f4 <| t63_pl) := And.intro t63_k <| And.intro t63_a <| And.intro t63_if <| And.intro t63_sz <| And.intro t63_z <| And.intro t63_zv <| And.intro t63_f0 <| And.intro t63_f1 <| And.intro t63_f2 <| And.intro t63_f3 <| And.intro t63_f4 <| t63_pl
theorem t65 : type_of% (And.intro t65_k <| And.intro t65_a <| And.intro t65_if <| And.intro t65_p <| And.intro t65_sz <| And.intro t65_by <| And.intro t65_z <| And.intro t65_d <| t65_zv) := And.intro t65_k <| And.intro t65_a <| And.intro t65_if <| And.intro t65_p <| And.intro t65_sz <| And.intro t65_by <| And.intro t65_z <| And.intro t65_d <| t65_zv
theorem t67 : type_of% (And.intro t67_k <| And.intro t67_a <| And.intro t67_if <| And.intro t67_p <| And.intro t67_sz <| And.intro t67_by <| And.intro t67_z <| And.intro t67_d <| t67_zv) := And.intro t67_k <| And.intro t67_a <| And.intro t67_if <| And.intro t67_p <| And.intro t67_sz <| And.intro t67_by <| And.intro t67_z <| And.intro t67_d <| t67_zv
theorem t73 : type_of% (And.intro t73_k <| And.intro t73_a <| And.intro t73_if <| And.intro t73_e <| And.intro t73_s <| And.intro t73_sz <| And.intro t73_by <| And.intro t73_z <| And.intro t73_d <| t73_zv) := And.intro t73_k <| And.intro t73_a <| And.intro t73_if <| And.intro t73_e <| And.intro t73_s <| And.intro t73_sz <| And.intro t73_by <| And.intro t73_z <| And.intro t73_d <| t73_zv
theorem t74 : type_of% (And.intro t74_k <| And.intro t74_a <| And.intro t74_if <| And.intro t74_fn <| And.intro t74_sz <| And.intro t74_by <| And.intro t74_z <| And.intro t74_d <| t74_zv) := And.intro t74_k <| And.intro t74_a <| And.intro t74_if <| And.intro t74_fn <| And.intro t74_sz <| And.intro t74_by <| And.intro t74_z <| And.intro t74_d <| t74_zv
theorem t75 : type_of% (And.intro t75_k <| And.intro t75_a <| And.intro t75_if <| And.intro t75_e <| And.intro t75_s <| And.intro t75_sz <| And.intro t75_by <| And.intro t75_z <| And.intro t75_d <| t75_zv) := And.intro t75_k <| And.intro t75_a <| And.intro t75_if <| And.intro t75_e <| And.intro t75_s <| And.intro t75_sz <| And.intro t75_by <| And.intro t75_z <| And.intro t75_d <| t75_zv
theorem t76 : type_of% (And.intro t76_k <| And.intro t76_a <| And.intro t76_if <| And.intro t76_ea <| And.intro t76_ar <| And.intro t76_pl <| And.intro t76_sz <| And.intro t76_by <| And.intro t76_z <| t76_zv) := And.intro t76_k <| And.intro t76_a <| And.intro t76_if <| And.intro t76_ea <| And.intro t76_ar <| And.intro t76_pl <| And.intro t76_sz <| And.intro t76_by <| And.intro t76_z <| t76_zv
theorem t79 : type_of% (And.intro t79_k <| And.intro t79_a <| And.intro t79_if <| And.intro t79_p <| And.intro t79_sz <| And.intro t79_by <| And.intro t79_z <| And.intro t79_d <| t79_zv) := And.intro t79_k <| And.intro t79_a <| And.intro t79_if <| And.intro t79_p <| And.intro t79_sz <| And.intro t79_by <| And.intro t79_z <| And.intro t79_d <| t79_zv
theorem t82 : type_of% (And.intro t82_k <| And.intro t82_a <| And.intro t82_if <| And.intro t82_ea <| And.intro t82_sz <| And.intro t82_z <| And.intro t82_zv <| And.intro t82_f0 <| And.intro t82_f1 <| And.intro t82_f2 <| And.intro t82_f3 <| And.intro t82_f4 <| t82_pl) := And.intro t82_k <| And.intro t82_a <| And.intro t82_if <| And.intro t82_ea <| And.intro t82_sz <| And.intro t82_z <| And.intro t82_zv <| And.intro t82_f0 <| And.intro t82_f1 <| And.intro t82_f2 <| And.intro t82_f3 <| And.intro t82_f4 <| t82_pl
theorem t83 : type_of% (And.intro t83_k <| And.intro t83_a <| And.intro t83_if <| And.intro t83_ea <| And.intro t83_sz <| And.intro t83_z <| And.intro t83_zv <| And.intro t83_f0 <| And.intro t83_f1 <| And.intro t83_f2 <| And.intro t83_f3 <| And.intro t83_f4 <| t83_pl) := And.intro t83_k <| And.intro t83_a <| And.intro t83_if <| And.intro t83_ea <| And.intro t83_sz <| And.intro t83_z <| And.intro t83_zv <| And.intro t83_f0 <| And.intro t83_f1 <| And.intro t83_f2 <| And.intro t83_f3 <| And.intro t83_f4 <| t83_pl
theorem t89 : type_of% (And.intro t89_k <| And.intro t89_a <| And.intro t89_if <| And.intro t89_e <| And.intro t89_s <| And.intro t89_sz <| And.intro t89_by <| And.intro t89_z <| And.intro t89_d <| t89_zv) := And.intro t89_k <| And.intro t89_a <| And.intro t89_if <| And.intro t89_e <| And.intro t89_s <| And.intro t89_sz <| And.intro t89_by <| And.intro t89_z <| And.intro t89_d <| t89_zv
theorem t90 : type_of% (And.intro t90_k <| And.intro t90_a <| And.intro t90_if <| And.intro t90_fn <| And.intro t90_sz <| And.intro t90_by <| And.intro t90_z <| And.intro t90_d <| t90_zv) := And.intro t90_k <| And.intro t90_a <| And.intro t90_if <| And.intro t90_fn <| And.intro t90_sz <| And.intro t90_by <| And.intro t90_z <| And.intro t90_d <| t90_zv
theorem t91 : type_of% (And.intro t91_k <| And.intro t91_a <| And.intro t91_if <| And.intro t91_e <| And.intro t91_s <| And.intro t91_sz <| And.intro t91_by <| And.intro t91_z <| And.intro t91_d <| t91_zv) := And.intro t91_k <| And.intro t91_a <| And.intro t91_if <| And.intro t91_e <| And.intro t91_s <| And.intro t91_sz <| And.intro t91_by <| And.intro t91_z <| And.intro t91_d <| t91_zv
theorem t92 : type_of% (And.intro t92_k <| And.intro t92_a <| And.intro t92_if <| And.intro t92_p <| And.intro t92_sz <| And.intro t92_by <| And.intro t92_z <| And.intro t92_d <| t92_zv) := And.intro t92_k <| And.intro t92_a <| And.intro t92_if <| And.intro t92_p <| And.intro t92_sz <| And.intro t92_by <| And.intro t92_z <| And.intro t92_d <| t92_zv
theorem t96 : type_of% (And.intro t96_k <| And.intro t96_a <| And.intro t96_if <| And.intro t96_p <| And.intro t96_sz <| And.intro t96_by <| And.intro t96_z <| And.intro t96_d <| t96_zv) := And.intro t96_k <| And.intro t96_a <| And.intro t96_if <| And.intro t96_p <| And.intro t96_sz <| And.intro t96_by <| And.intro t96_z <| And.intro t96_d <| t96_zv
theorem t97 : type_of% (And.intro t97_k <| And.intro t97_a <| And.intro t97_if <| And.intro t97_sz <| And.intro t97_z <| And.intro t97_zv <| And.intro t97_f0 <| And.intro t97_f1 <| And.intro t97_f2 <| t97_pl) := And.intro t97_k <| And.intro t97_a <| And.intro t97_if <| And.intro t97_sz <| And.intro t97_z <| And.intro t97_zv <| And.intro t97_f0 <| And.intro t97_f1 <| And.intro t97_f2 <| t97_pl
theorem t98 : type_of% (And.intro t98_k <| And.intro t98_a <| And.intro t98_if <| And.intro t98_sz <| And.intro t98_z <| And.intro t98_zv <| And.intro t98_f0 <| And.intro t98_f1 <| And.intro t98_f2 <| t98_pl) := And.intro t98_k <| And.intro t98_a <| And.intro t98_if <| And.intro t98_sz <| And.intro t98_z <| And.intro t98_zv <| And.intro t98_f0 <| And.intro t98_f1 <| And.intro t98_f2 <| t98_pl
theorem t106 : type_of% (And.intro t106_k <| And.intro t106_a <| And.intro t106_if <| And.intro t106_fn <| And.intro t106_sz <| And.intro t106_by <| And.intro t106_z <| And.intro t106_d <| t106_zv) := And.intro t106_k <| And.intro t106_a <| And.intro t106_if <| And.intro t106_fn <| And.intro t106_sz <| And.intro t106_by <| And.intro t106_z <| And.intro t106_d <| t106_zv
theorem t107 : type_of% (And.intro t107_k <| And.intro t107_a <| And.intro t107_if <| And.intro t107_fn <| And.intro t107_sz <| And.intro t107_by <| And.intro t107_z <| And.intro t107_d <| t107_zv) := And.intro t107_k <| And.intro t107_a <| And.intro t107_if <| And.intro t107_fn <| And.intro t107_sz <| And.intro t107_by <| And.intro t107_z <| And.intro t107_d <| t107_zv
theorem t109 : type_of% (And.intro t109_k <| And.intro t109_a <| And.intro t109_if <| And.intro t109_mx <| And.intro t109_sz <| And.intro t109_by <| And.intro t109_z <| And.intro t109_d <| t109_zv) := And.intro t109_k <| And.intro t109_a <| And.intro t109_if <| And.intro t109_mx <| And.intro t109_sz <| And.intro t109_by <| And.intro t109_z <| And.intro t109_d <| t109_zv
theorem t110 : type_of% (And.intro t110_k <| And.intro t110_a <| And.intro t110_if <| And.intro t110_sz <| And.intro t110_z <| And.intro t110_zv <| And.intro t110_f0 <| And.intro t110_f1 <| And.intro t110_f2 <| And.intro t110_f3 <| t110_pl) := And.intro t110_k <| And.intro t110_a <| And.intro t110_if <| And.intro t110_sz <| And.intro t110_z <| And.intro t110_zv <| And.intro t110_f0 <| And.intro t110_f1 <| And.intro t110_f2 <| And.intro t110_f3 <| t110_pl
theorem t111 : type_of% (And.intro t111_k <| And.intro t111_a <| And.intro t111_if <| And.intro t111_sz <| And.intro t111_z <| And.intro t111_zv <| And.intro t111_f0 <| And.intro t111_f1 <| And.intro t111_f2 <| And.intro t111_f3 <| t111_pl) := And.intro t111_k <| And.intro t111_a <| And.intro t111_if <| And.intro t111_sz <| And.intro t111_z <| And.intro t111_zv <| And.intro t111_f0 <| And.intro t111_f1 <| And.intro t111_f2 <| And.intro t111_f3 <| t111_pl
theorem t112 : type_of% (And.intro t112_k <| And.intro t112_a <| And.intro t112_if <| And.intro t112_ea <| And.intro t112_ar <| And.intro t112_pl <| And.intro t112_sz <| And.intro t112_by <| And.intro t112_z <| t112_zv) := And.intro t112_k <| And.intro t112_a <| And.intro t112_if <| And.intro t112_ea <| And.intro t112_ar <| And.intro t112_pl <| And.intro t112_sz <| And.intro t112_by <| And.intro t112_z <| t112_zv
theorem t113 : type_of% (And.intro t113_k <| And.intro t113_a <| And.intro t113_if <| And.intro t113_ea <| And.intro t113_ar <| And.intro t113_pl <| And.intro t113_sz <| And.intro t113_by <| And.intro t113_z <| t113_zv) := And.intro t113_k <| And.intro t113_a <| And.intro t113_if <| And.intro t113_ea <| And.intro t113_ar <| And.intro t113_pl <| And.intro t113_sz <| And.intro t113_by <| And.intro t113_z <| t113_zv
theorem t117 : type_of% (And.intro t117_k <| And.intro t117_a <| And.intro t117_if <| And.intro t117_i <| And.intro t117_sz <| And.intro t117_by <| And.intro t117_z <| And.intro t117_d <| t117_zv) := And.intro t117_k <| And.intro t117_a <| And.intro t117_if <| And.intro t117_i <| And.intro t117_sz <| And.intro t117_by <| And.intro t117_z <| And.intro t117_d <| t117_zv
theorem t118 : type_of% (And.intro t118_k <| And.intro t118_a <| And.intro t118_if <| And.intro t118_sz <| And.intro t118_z <| And.intro t118_zv <| And.intro t118_f0 <| And.intro t118_f1 <| And.intro t118_f2 <| And.intro t118_f3 <| t118_pl) := And.intro t118_k <| And.intro t118_a <| And.intro t118_if <| And.intro t118_sz <| And.intro t118_z <| And.intro t118_zv <| And.intro t118_f0 <| And.intro t118_f1 <| And.intro t118_f2 <| And.intro t118_f3 <| t118_pl
theorem t119 : type_of% (And.intro t119_k <| And.intro t119_a <| And.intro t119_if <| And.intro t119_sz <| And.intro t119_z <| And.intro t119_zv <| And.intro t119_f0 <| And.intro t119_f1 <| And.intro t119_f2 <| And.intro t119_f3 <| t119_pl) := And.intro t119_k <| And.intro t119_a <| And.intro t119_if <| And.intro t119_sz <| And.intro t119_z <| And.intro t119_zv <| And.intro t119_f0 <| And.intro t119_f1 <| And.intro t119_f2 <| And.intro t119_f3 <| t119_pl
theorem t123 : type_of% (And.intro t123_k <| And.intro t123_a <| And.intro t123_if <| And.intro t123_sz <| And.intro t123_z <| And.intro t123_zv <| And.intro t123_f0 <| And.intro t123_f1 <| And.intro t123_f2 <| And.intro t123_f3 <| And.intro t123_f4 <| t123_pl) := And.intro t123_k <| And.intro t123_a <| And.intro t123_if <| And.intro t123_sz <| And.intro t123_z <| And.intro t123_zv <| And.intro t123_f0 <| And.intro t123_f1 <| And.intro t123_f2 <| And.intro t123_f3 <| And.intro t123_f4 <| t123_pl
theorem t124 : type_of% (And.intro t124_k <| And.intro t124_a <| And.intro t124_if <| And.intro t124_sz <| And.intro t124_z <| And.intro t124_zv <| And.intro t124_f0 <| And.intro t124_f1 <| And.intro t124_f2 <| And.intro t124_f3 <| And.intro t124_f4 <| t124_pl) := And.intro t124_k <| And.intro t124_a <| And.intro t124_if <| And.intro t124_sz <| And.intro t124_z <| And.intro t124_zv <| And.intro t124_f0 <| And.intro t124_f1 <| And.intro t124_f2 <| And.intro t124_f3 <| And.intro t124_f4 <| t124_pl
theorem t125 : type_of% (And.intro t125_k <| And.intro t125_a <| And.intro t125_if <| And.intro t125_sz <| And.intro t125_z <| And.intro t125_zv <| And.intro t125_f0 <| And.intro t125_f1 <| t125_pl) := And.intro t125_k <| And.intro t125_a <| And.intro t125_if <| And.intro t125_sz <| And.intro t125_z <| And.intro t125_zv <| And.intro t125_f0 <| And.intro t125_f1 <| t125_pl
theorem t126 : type_of% (And.intro t126_k <| And.intro t126_a <| And.intro t126_if <| And.intro t126_sz <| And.intro t126_z <| And.intro t126_zv <| And.intro t126_f0 <| And.intro t126_f1 <| t126_pl) := And.intro t126_k <| And.intro t126_a <| And.intro t126_if <| And.intro t126_sz <| And.intro t126_z <| And.intro t126_zv <| And.intro t126_f0 <| And.intro t126_f1 <| t126_pl
theorem t128 : type_of% (And.intro t128_k <| And.intro t128_a <| And.intro t128_if <| And.intro t128_p <| And.intro t128_sz <| And.intro t128_by <| And.intro t128_z <| And.intro t128_d <| t128_zv) := And.intro t128_k <| And.intro t128_a <| And.intro t128_if <| And.intro t128_p <| And.intro t128_sz <| And.intro t128_by <| And.intro t128_z <| And.intro t128_d <| t128_zv
theorem t129 : type_of% (And.intro t129_k <| And.intro t129_a <| And.intro t129_if <| And.intro t129_sz <| And.intro t129_z <| And.intro t129_zv <| And.intro t129_f0 <| And.intro t129_f1 <| t129_pl) := And.intro t129_k <| And.intro t129_a <| And.intro t129_if <| And.intro t129_sz <| And.intro t129_z <| And.intro t129_zv <| And.intro t129_f0 <| And.intro t129_f1 <| t129_pl
theorem t130 : type_of% (And.intro t130_k <| And.intro t130_a <| And.intro t130_if <| And.intro t130_sz <| And.intro t130_z <| And.intro t130_zv <| And.intro t130_f0 <| And.intro t130_f1 <| t130_pl) := And.intro t130_k <| And.intro t130_a <| And.intro t130_if <| And.intro t130_sz <| And.intro t130_z <| And.intro t130_zv <| And.intro t130_f0 <| And.intro t130_f1 <| t130_pl
theorem t132 : type_of% (And.intro t132_k <| And.intro t132_a <| And.intro t132_if <| And.intro t132_e <| And.intro t132_s <| And.intro t132_sz <| And.intro t132_by <| And.intro t132_z <| And.intro t132_d <| t132_zv) := And.intro t132_k <| And.intro t132_a <| And.intro t132_if <| And.intro t132_e <| And.intro t132_s <| And.intro t132_sz <| And.intro t132_by <| And.intro t132_z <| And.intro t132_d <| t132_zv
theorem t133 : type_of% (And.intro t133_k <| And.intro t133_a <| And.intro t133_if <| And.intro t133_sz <| And.intro t133_z <| And.intro t133_zv <| And.intro t133_f0 <| And.intro t133_f1 <| And.intro t133_f2 <| And.intro t133_f3 <| And.intro t133_f4 <| And.intro t133_f5 <| t133_pl) := And.intro t133_k <| And.intro t133_a <| And.intro t133_if <| And.intro t133_sz <| And.intro t133_z <| And.intro t133_zv <| And.intro t133_f0 <| And.intro t133_f1 <| And.intro t133_f2 <| And.intro t133_f3 <| And.intro t133_f4 <| And.intro t133_f5 <| t133_pl
theorem t134 : type_of% (And.intro t134_k <| And.intro t134_a <| And.intro t134_if <| And.intro t134_sz <| And.intro t134_z <| And.intro t134_zv <| And.intro t134_f0 <| And.intro t134_f1 <| And.intro t134_f2 <| And.intro t134_f3 <| And.intro t134_f4 <| And.intro t134_f5 <| t134_pl) := And.intro t134_k <| And.intro t134_a <| And.intro t134_if <| And.intro t134_sz <| And.intro t134_z <| And.intro t134_zv <| And.intro t134_f0 <| And.intro t134_f1 <| And.intro t134_f2 <| And.intro t134_f3 <| And.intro t134_f4 <| And.intro t134_f5 <| t134_pl
theorem t135 : type_of% (And.intro t135_k <| And.intro t135_a <| And.intro t135_if <| And.intro t135_fn <| And.intro t135_sz <| And.intro t135_by <| And.intro t135_z <| And.intro t135_d <| t135_zv) := And.intro t135_k <| And.intro t135_a <| And.intro t135_if <| And.intro t135_fn <| And.intro t135_sz <| And.intro t135_by <| And.intro t135_z <| And.intro t135_d <| t135_zv
theorem t137 : type_of% (And.intro t137_k <| And.intro t137_a <| And.intro t137_if <| And.intro t137_mp <| And.intro t137_mx <| And.intro t137_sz <| And.intro t137_by <| And.intro t137_z <| And.intro t137_d <| t137_zv) := And.intro t137_k <| And.intro t137_a <| And.intro t137_if <| And.intro t137_mp <| And.intro t137_mx <| And.intro t137_sz <| And.intro t137_by <| And.intro t137_z <| And.intro t137_d <| t137_zv
theorem t138 : type_of% (And.intro t138_k <| And.intro t138_a <| And.intro t138_if <| And.intro t138_sz <| And.intro t138_z <| And.intro t138_zv <| And.intro t138_f0 <| And.intro t138_f1 <| And.intro t138_f2 <| And.intro t138_f3 <| And.intro t138_f4 <| And.intro t138_f5 <| And.intro t138_f6 <| t138_pl) := And.intro t138_k <| And.intro t138_a <| And.intro t138_if <| And.intro t138_sz <| And.intro t138_z <| And.intro t138_zv <| And.intro t138_f0 <| And.intro t138_f1 <| And.intro t138_f2 <| And.intro t138_f3 <| And.intro t138_f4 <| And.intro t138_f5 <| And.intro t138_f6 <| t138_pl
theorem t139 : type_of% (And.intro t139_k <| And.intro t139_a <| And.intro t139_if <| And.intro t139_sz <| And.intro t139_z <| And.intro t139_zv <| And.intro t139_f0 <| And.intro t139_f1 <| And.intro t139_f2 <| And.intro t139_f3 <| And.intro t139_f4 <| And.intro t139_f5 <| And.intro t139_f6 <| t139_pl) := And.intro t139_k <| And.intro t139_a <| And.intro t139_if <| And.intro t139_sz <| And.intro t139_z <| And.intro t139_zv <| And.intro t139_f0 <| And.intro t139_f1 <| And.intro t139_f2 <| And.intro t139_f3 <| And.intro t139_f4 <| And.intro t139_f5 <| And.intro t139_f6 <| t139_pl
theorem t144 : type_of% (And.intro t144_k <| And.intro t144_a <| And.intro t144_if <| And.intro t144_fn <| And.intro t144_sz <| And.intro t144_by <| And.intro t144_z <| And.intro t144_d <| t144_zv) := And.intro t144_k <| And.intro t144_a <| And.intro t144_if <| And.intro t144_fn <| And.intro t144_sz <| And.intro t144_by <| And.intro t144_z <| And.intro t144_d <| t144_zv
theorem t145 : type_of% (And.intro t145_k <| And.intro t145_a <| And.intro t145_if <| And.intro t145_fn <| And.intro t145_sz <| And.intro t145_by <| And.intro t145_z <| And.intro t145_d <| t145_zv) := And.intro t145_k <| And.intro t145_a <| And.intro t145_if <| And.intro t145_fn <| And.intro t145_sz <| And.intro t145_by <| And.intro t145_z <| And.intro t145_d <| t145_zv
theorem t146 : type_of% (And.intro t146_k <| And.intro t146_a <| And.intro t146_if <| And.intro t146_fn <| And.intro t146_sz <| And.intro t146_by <| And.intro t146_z <| And.intro t146_d <| t146_zv) := And.intro t146_k <| And.intro t146_a <| And.intro t146_if <| And.intro t146_fn <| And.intro t146_sz <| And.intro t146_by <| And.intro t146_z <| And.intro t146_d <| t146_zv
theorem mixed : Go.Proofs.Try.prog.follows .mixedOrders = true := by kernel_rfl
end Go.Proofs.Ytmnbbpckglppjaa.Fx
