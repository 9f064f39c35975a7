/- Facts on the types and functions of the translation, written by a program of our own. -/
import Derived.Test.YtmdeoikpiiambaaEng10
import Derived.Test.YtmdeoikpiiambaaProg
set_option maxRecDepth 100000
namespace Go.Proofs.Ytmdeoikpiiambaa.Fx
open Go Go.Eng
theorem t1_k : known Go.Proofs.Try.prog 1 = true := by kernel_rfl
theorem t1_a : aggT Go.Proofs.Try.prog 1 = false := by kernel_rfl
theorem t1_if : isIfaceT Go.Proofs.Try.prog 1 = false := by kernel_rfl
theorem t1_fn : isFuncT Go.Proofs.Try.prog 1 = true := by kernel_rfl
theorem t2_k : known Go.Proofs.Try.prog 2 = true := by kernel_rfl
theorem t2_a : aggT Go.Proofs.Try.prog 2 = false := by kernel_rfl
theorem t2_if : isIfaceT Go.Proofs.Try.prog 2 = false := by kernel_rfl
theorem t2_i : intT Go.Proofs.Try.prog 2 = some .i64 := by kernel_rfl
theorem t3_k : known Go.Proofs.Try.prog 3 = true := by kernel_rfl
theorem t3_a : aggT Go.Proofs.Try.prog 3 = false := by kernel_rfl
theorem t3_if : isIfaceT Go.Proofs.Try.prog 3 = false := by kernel_rfl
theorem t3_i : intT Go.Proofs.Try.prog 3 = some .i64 := by kernel_rfl
theorem t4_k : known Go.Proofs.Try.prog 4 = true := by kernel_rfl
theorem t4_a : aggT Go.Proofs.Try.prog 4 = false := by kernel_rfl
theorem t4_if : isIfaceT Go.Proofs.Try.prog 4 = false := by kernel_rfl
theorem t4_b : isBoolT Go.Proofs.Try.prog 4 = true := by kernel_rfl
theorem t5_k : known Go.Proofs.Try.prog 5 = true := by kernel_rfl
theorem t5_a : aggT Go.Proofs.Try.prog 5 = false := by kernel_rfl
theorem t5_if : isIfaceT Go.Proofs.Try.prog 5 = false := by kernel_rfl
theorem t5_i : intT Go.Proofs.Try.prog 5 = some .u8 := by kernel_rfl
theorem t6_k : known Go.Proofs.Try.prog 6 = true := by kernel_rfl
theorem t6_a : aggT Go.Proofs.Try.prog 6 = false := by kernel_rfl
theorem t6_if : isIfaceT Go.Proofs.Try.prog 6 = false := by kernel_rfl
theorem t6_i : intT Go.Proofs.Try.prog 6 = some .u8 := by kernel_rfl
theorem t7_k : known Go.Proofs.Try.prog 7 = true := by kernel_rfl
theorem t7_a : aggT Go.Proofs.Try.prog 7 = true := by kernel_rfl
theorem t7_if : isIfaceT Go.Proofs.Try.prog 7 = false := by kernel_rfl
theorem t8_k : known Go.Proofs.Try.prog 8 = true := by kernel_rfl
theorem t8_a : aggT Go.Proofs.Try.prog 8 = true := by kernel_rfl
theorem t8_if : isIfaceT Go.Proofs.Try.prog 8 = false := by kernel_rfl
theorem t9_k : known Go.Proofs.Try.prog 9 = true := by kernel_rfl
theorem t9_a : aggT Go.Proofs.Try.prog 9 = false := by kernel_rfl
theorem t9_if : isIfaceT Go.Proofs.Try.prog 9 = false := by kernel_rfl
theorem t9_s : isStrT Go.Proofs.Try.prog 9 = true := by kernel_rfl
theorem t10_k : known Go.Proofs.Try.prog 10 = true := by kernel_rfl
theorem t10_a : aggT Go.Proofs.Try.prog 10 = false := by kernel_rfl
theorem t10_if : isIfaceT Go.Proofs.Try.prog 10 = false := by kernel_rfl
theorem t10_s : isStrT Go.Proofs.Try.prog 10 = true := by kernel_rfl
theorem t11_k : known Go.Proofs.Try.prog 11 = true := by kernel_rfl
theorem t11_a : aggT Go.Proofs.Try.prog 11 = false := by kernel_rfl
theorem t11_if : isIfaceT Go.Proofs.Try.prog 11 = false := by kernel_rfl
theorem t11_s : isStrT Go.Proofs.Try.prog 11 = true := by kernel_rfl
theorem t12_k : known Go.Proofs.Try.prog 12 = true := by kernel_rfl
theorem t12_a : aggT Go.Proofs.Try.prog 12 = false := by kernel_rfl
theorem t12_if : isIfaceT Go.Proofs.Try.prog 12 = false := by kernel_rfl
theorem t12_i : intT Go.Proofs.Try.prog 12 = some .u64 := by kernel_rfl
theorem t13_k : known Go.Proofs.Try.prog 13 = true := by kernel_rfl
theorem t13_a : aggT Go.Proofs.Try.prog 13 = true := by kernel_rfl
theorem t13_if : isIfaceT Go.Proofs.Try.prog 13 = false := by kernel_rfl
theorem t14_k : known Go.Proofs.Try.prog 14 = true := by kernel_rfl
theorem t14_a : aggT Go.Proofs.Try.prog 14 = true := by kernel_rfl
theorem t14_if : isIfaceT Go.Proofs.Try.prog 14 = false := by kernel_rfl
theorem t15_k : known Go.Proofs.Try.prog 15 = true := by kernel_rfl
theorem t15_a : aggT Go.Proofs.Try.prog 15 = false := by kernel_rfl
theorem t15_if : isIfaceT Go.Proofs.Try.prog 15 = false := by kernel_rfl
theorem t15_p : isPtrT Go.Proofs.Try.prog 15 = true := by kernel_rfl
theorem t16_k : known Go.Proofs.Try.prog 16 = true := by kernel_rfl
theorem t16_a : aggT Go.Proofs.Try.prog 16 = false := by kernel_rfl
theorem t16_if : isIfaceT Go.Proofs.Try.prog 16 = false := by kernel_rfl
theorem t16_p : isPtrT Go.Proofs.Try.prog 16 = true := by kernel_rfl
theorem t17_k : known Go.Proofs.Try.prog 17 = true := by kernel_rfl
theorem t17_a : aggT Go.Proofs.Try.prog 17 = false := by kernel_rfl
theorem t17_if : isIfaceT Go.Proofs.Try.prog 17 = false := by kernel_rfl
theorem t17_p : isPtrT Go.Proofs.Try.prog 17 = true := by kernel_rfl
theorem t20_k : known Go.Proofs.Try.prog 20 = true := by kernel_rfl
theorem t20_a : aggT Go.Proofs.Try.prog 20 = false := by kernel_rfl
theorem t20_if : isIfaceT Go.Proofs.Try.prog 20 = true := by kernel_rfl
theorem t21_k : known Go.Proofs.Try.prog 21 = true := by kernel_rfl
theorem t21_a : aggT Go.Proofs.Try.prog 21 = false := by kernel_rfl
theorem t21_if : isIfaceT Go.Proofs.Try.prog 21 = false := by kernel_rfl
theorem t21_i : intT Go.Proofs.Try.prog 21 = some .i32 := by kernel_rfl
theorem t22_k : known Go.Proofs.Try.prog 22 = true := by kernel_rfl
theorem t22_a : aggT Go.Proofs.Try.prog 22 = false := by kernel_rfl
theorem t22_if : isIfaceT Go.Proofs.Try.prog 22 = false := by kernel_rfl
theorem t22_e : elemT Go.Proofs.Try.prog 22 = some 5 := by kernel_rfl
theorem t22_s : isStrT Go.Proofs.Try.prog 22 = false := by kernel_rfl
theorem t23_k : known Go.Proofs.Try.prog 23 = true := by kernel_rfl
theorem t23_a : aggT Go.Proofs.Try.prog 23 = false := by kernel_rfl
theorem t23_if : isIfaceT Go.Proofs.Try.prog 23 = false := by kernel_rfl
theorem t23_fn : isFuncT Go.Proofs.Try.prog 23 = true := by kernel_rfl
theorem t25_k : known Go.Proofs.Try.prog 25 = true := by kernel_rfl
theorem t25_a : aggT Go.Proofs.Try.prog 25 = false := by kernel_rfl
theorem t25_if : isIfaceT Go.Proofs.Try.prog 25 = false := by kernel_rfl
theorem t25_i : intT Go.Proofs.Try.prog 25 = some .i64 := by kernel_rfl
theorem t42_k : known Go.Proofs.Try.prog 42 = true := by kernel_rfl
theorem t42_a : aggT Go.Proofs.Try.prog 42 = false := by kernel_rfl
theorem t42_if : isIfaceT Go.Proofs.Try.prog 42 = false := by kernel_rfl
theorem t42_fn : isFuncT Go.Proofs.Try.prog 42 = true := by kernel_rfl
theorem t44_k : known Go.Proofs.Try.prog 44 = true := by kernel_rfl
theorem t44_a : aggT Go.Proofs.Try.prog 44 = false := by kernel_rfl
theorem t44_if : isIfaceT Go.Proofs.Try.prog 44 = false := by kernel_rfl
theorem t44_e : elemT Go.Proofs.Try.prog 44 = some 126 := by kernel_rfl
theorem t44_s : isStrT Go.Proofs.Try.prog 44 = false := by kernel_rfl
theorem t46_k : known Go.Proofs.Try.prog 46 = true := by kernel_rfl
theorem t46_a : aggT Go.Proofs.Try.prog 46 = false := by kernel_rfl
theorem t46_if : isIfaceT Go.Proofs.Try.prog 46 = false := by kernel_rfl
theorem t46_e : elemT Go.Proofs.Try.prog 46 = some 50 := by kernel_rfl
theorem t46_s : isStrT Go.Proofs.Try.prog 46 = false := by kernel_rfl
theorem t49_k : known Go.Proofs.Try.prog 49 = true := by kernel_rfl
theorem t49_a : aggT Go.Proofs.Try.prog 49 = true := by kernel_rfl
theorem t49_if : isIfaceT Go.Proofs.Try.prog 49 = false := by kernel_rfl
theorem t49_ea : eqAggT Go.Proofs.Try.prog 49 = true := by kernel_rfl
theorem t50_k : known Go.Proofs.Try.prog 50 = true := by kernel_rfl
theorem t50_a : aggT Go.Proofs.Try.prog 50 = true := by kernel_rfl
theorem t50_if : isIfaceT Go.Proofs.Try.prog 50 = false := by kernel_rfl
theorem t50_ea : eqAggT Go.Proofs.Try.prog 50 = true := by kernel_rfl
theorem t58_k : known Go.Proofs.Try.prog 58 = true := by kernel_rfl
theorem t58_a : aggT Go.Proofs.Try.prog 58 = false := by kernel_rfl
theorem t58_if : isIfaceT Go.Proofs.Try.prog 58 = false := by kernel_rfl
theorem t58_e : elemT Go.Proofs.Try.prog 58 = some 71 := by kernel_rfl
theorem t58_s : isStrT Go.Proofs.Try.prog 58 = false := by kernel_rfl
theorem t59_k : known Go.Proofs.Try.prog 59 = true := by kernel_rfl
theorem t59_a : aggT Go.Proofs.Try.prog 59 = false := by kernel_rfl
theorem t59_if : isIfaceT Go.Proofs.Try.prog 59 = false := by kernel_rfl
theorem t59_p : isPtrT Go.Proofs.Try.prog 59 = true := by kernel_rfl
theorem t63_k : known Go.Proofs.Try.prog 63 = true := by kernel_rfl
theorem t63_a : aggT Go.Proofs.Try.prog 63 = false := by kernel_rfl
theorem t63_if : isIfaceT Go.Proofs.Try.prog 63 = false := by kernel_rfl
theorem t63_p : isPtrT Go.Proofs.Try.prog 63 = true := by kernel_rfl
theorem t65_k : known Go.Proofs.Try.prog 65 = true := by kernel_rfl
theorem t65_a : aggT Go.Proofs.Try.prog 65 = false := by kernel_rfl
theorem t65_if : isIfaceT Go.Proofs.Try.prog 65 = false := by kernel_rfl
theorem t65_p : isPtrT Go.Proofs.Try.prog 65 = true := by kernel_rfl
theorem t67_k : known Go.Proofs.Try.prog 67 = true := by kernel_rfl
theorem t67_a : aggT Go.Proofs.Try.prog 67 = false := by kernel_rfl
theorem t67_if : isIfaceT Go.Proofs.Try.prog 67 = false := by kernel_rfl
theorem t67_p : isPtrT Go.Proofs.Try.prog 67 = true := by kernel_rfl
theorem t70_k : known Go.Proofs.Try.prog 70 = true := by kernel_rfl
theorem t70_a : aggT Go.Proofs.Try.prog 70 = true := by kernel_rfl
theorem t70_if : isIfaceT Go.Proofs.Try.prog 70 = false := by kernel_rfl
theorem t70_ea : eqAggT Go.Proofs.Try.prog 70 = true := by kernel_rfl
theorem t71_k : known Go.Proofs.Try.prog 71 = true := by kernel_rfl
theorem t71_a : aggT Go.Proofs.Try.prog 71 = true := by kernel_rfl
theorem t71_if : isIfaceT Go.Proofs.Try.prog 71 = false := by kernel_rfl
theorem t71_ea : eqAggT Go.Proofs.Try.prog 71 = true := by kernel_rfl
theorem t77_k : known Go.Proofs.Try.prog 77 = true := by kernel_rfl
theorem t77_a : aggT Go.Proofs.Try.prog 77 = false := by kernel_rfl
theorem t77_if : isIfaceT Go.Proofs.Try.prog 77 = false := by kernel_rfl
theorem t77_e : elemT Go.Proofs.Try.prog 77 = some 3 := by kernel_rfl
theorem t77_s : isStrT Go.Proofs.Try.prog 77 = false := by kernel_rfl
theorem t78_k : known Go.Proofs.Try.prog 78 = true := by kernel_rfl
theorem t78_a : aggT Go.Proofs.Try.prog 78 = false := by kernel_rfl
theorem t78_if : isIfaceT Go.Proofs.Try.prog 78 = false := by kernel_rfl
theorem t78_e : elemT Go.Proofs.Try.prog 78 = some 136 := by kernel_rfl
theorem t78_s : isStrT Go.Proofs.Try.prog 78 = false := by kernel_rfl
theorem t79_k : known Go.Proofs.Try.prog 79 = true := by kernel_rfl
theorem t79_a : aggT Go.Proofs.Try.prog 79 = true := by kernel_rfl
theorem t79_if : isIfaceT Go.Proofs.Try.prog 79 = false := by kernel_rfl
theorem t80_k : known Go.Proofs.Try.prog 80 = true := by kernel_rfl
theorem t80_a : aggT Go.Proofs.Try.prog 80 = true := by kernel_rfl
theorem t80_if : isIfaceT Go.Proofs.Try.prog 80 = false := by kernel_rfl
theorem t82_k : known Go.Proofs.Try.prog 82 = true := by kernel_rfl
theorem t82_a : aggT Go.Proofs.Try.prog 82 = true := by kernel_rfl
theorem t82_if : isIfaceT Go.Proofs.Try.prog 82 = false := by kernel_rfl
theorem t82_ea : eqAggT Go.Proofs.Try.prog 82 = true := by kernel_rfl
theorem t82_ar : arrT Go.Proofs.Try.prog 82 = some (4, 3) := by kernel_rfl
theorem t82_pl : placesT Go.Proofs.Try.prog 82 = none := by kernel_rfl
theorem t85_k : known Go.Proofs.Try.prog 85 = true := by kernel_rfl
theorem t85_a : aggT Go.Proofs.Try.prog 85 = false := by kernel_rfl
theorem t85_if : isIfaceT Go.Proofs.Try.prog 85 = false := by kernel_rfl
theorem t85_fn : isFuncT Go.Proofs.Try.prog 85 = true := by kernel_rfl
theorem t88_k : known Go.Proofs.Try.prog 88 = true := by kernel_rfl
theorem t88_a : aggT Go.Proofs.Try.prog 88 = false := by kernel_rfl
theorem t88_if : isIfaceT Go.Proofs.Try.prog 88 = false := by kernel_rfl
theorem t88_p : isPtrT Go.Proofs.Try.prog 88 = true := by kernel_rfl
theorem t93_k : known Go.Proofs.Try.prog 93 = true := by kernel_rfl
theorem t93_a : aggT Go.Proofs.Try.prog 93 = false := by kernel_rfl
theorem t93_if : isIfaceT Go.Proofs.Try.prog 93 = false := by kernel_rfl
theorem t93_p : isPtrT Go.Proofs.Try.prog 93 = true := by kernel_rfl
theorem t96_k : known Go.Proofs.Try.prog 96 = true := by kernel_rfl
theorem t96_a : aggT Go.Proofs.Try.prog 96 = false := by kernel_rfl
theorem t96_if : isIfaceT Go.Proofs.Try.prog 96 = false := by kernel_rfl
theorem t96_p : isPtrT Go.Proofs.Try.prog 96 = true := by kernel_rfl
theorem t97_k : known Go.Proofs.Try.prog 97 = true := by kernel_rfl
theorem t97_a : aggT Go.Proofs.Try.prog 97 = true := by kernel_rfl
theorem t97_if : isIfaceT Go.Proofs.Try.prog 97 = false := by kernel_rfl
theorem t98_k : known Go.Proofs.Try.prog 98 = true := by kernel_rfl
theorem t98_a : aggT Go.Proofs.Try.prog 98 = true := by kernel_rfl
theorem t98_if : isIfaceT Go.Proofs.Try.prog 98 = false := by kernel_rfl
theorem t107_k : known Go.Proofs.Try.prog 107 = true := by kernel_rfl
theorem t107_a : aggT Go.Proofs.Try.prog 107 = false := by kernel_rfl
theorem t107_if : isIfaceT Go.Proofs.Try.prog 107 = false := by kernel_rfl
theorem t107_e : elemT Go.Proofs.Try.prog 107 = some 294 := by kernel_rfl
theorem t107_s : isStrT Go.Proofs.Try.prog 107 = false := by kernel_rfl
theorem t108_k : known Go.Proofs.Try.prog 108 = true := by kernel_rfl
theorem t108_a : aggT Go.Proofs.Try.prog 108 = false := by kernel_rfl
theorem t108_if : isIfaceT Go.Proofs.Try.prog 108 = false := by kernel_rfl
theorem t108_i : intT Go.Proofs.Try.prog 108 = some .u32 := by kernel_rfl
theorem t109_k : known Go.Proofs.Try.prog 109 = true := by kernel_rfl
theorem t109_a : aggT Go.Proofs.Try.prog 109 = true := by kernel_rfl
theorem t109_if : isIfaceT Go.Proofs.Try.prog 109 = false := by kernel_rfl
theorem t110_k : known Go.Proofs.Try.prog 110 = true := by kernel_rfl
theorem t110_a : aggT Go.Proofs.Try.prog 110 = true := by kernel_rfl
theorem t110_if : isIfaceT Go.Proofs.Try.prog 110 = false := by kernel_rfl
theorem t116_k : known Go.Proofs.Try.prog 116 = true := by kernel_rfl
theorem t116_a : aggT Go.Proofs.Try.prog 116 = false := by kernel_rfl
theorem t116_if : isIfaceT Go.Proofs.Try.prog 116 = false := by kernel_rfl
theorem t116_i : intT Go.Proofs.Try.prog 116 = some .u64 := by kernel_rfl
theorem t117_k : known Go.Proofs.Try.prog 117 = true := by kernel_rfl
theorem t117_a : aggT Go.Proofs.Try.prog 117 = false := by kernel_rfl
theorem t117_if : isIfaceT Go.Proofs.Try.prog 117 = false := by kernel_rfl
theorem t117_fn : isFuncT Go.Proofs.Try.prog 117 = true := by kernel_rfl
theorem t118_k : known Go.Proofs.Try.prog 118 = true := by kernel_rfl
theorem t118_a : aggT Go.Proofs.Try.prog 118 = false := by kernel_rfl
theorem t118_if : isIfaceT Go.Proofs.Try.prog 118 = false := by kernel_rfl
theorem t118_mp : mapT Go.Proofs.Try.prog 118 = some (.i64, 117) := by kernel_rfl
theorem t118_mx : mxT Go.Proofs.Try.prog 118 = none := by kernel_rfl
theorem t123_k : known Go.Proofs.Try.prog 123 = true := by kernel_rfl
theorem t123_a : aggT Go.Proofs.Try.prog 123 = false := by kernel_rfl
theorem t123_if : isIfaceT Go.Proofs.Try.prog 123 = false := by kernel_rfl
theorem t123_i : intT Go.Proofs.Try.prog 123 = some .u64 := by kernel_rfl
theorem t125_k : known Go.Proofs.Try.prog 125 = true := by kernel_rfl
theorem t125_a : aggT Go.Proofs.Try.prog 125 = false := by kernel_rfl
theorem t125_if : isIfaceT Go.Proofs.Try.prog 125 = false := by kernel_rfl
theorem t125_fn : isFuncT Go.Proofs.Try.prog 125 = true := by kernel_rfl
theorem t126_k : known Go.Proofs.Try.prog 126 = true := by kernel_rfl
theorem t126_a : aggT Go.Proofs.Try.prog 126 = true := by kernel_rfl
theorem t126_if : isIfaceT Go.Proofs.Try.prog 126 = false := by kernel_rfl
theorem t126_ea : eqAggT Go.Proofs.Try.prog 126 = true := by kernel_rfl
theorem t127_k : known Go.Proofs.Try.prog 127 = true := by kernel_rfl
theorem t127_a : aggT Go.Proofs.Try.prog 127 = false := by kernel_rfl
theorem t127_if : isIfaceT Go.Proofs.Try.prog 127 = false := by kernel_rfl
theorem t127_p : isPtrT Go.Proofs.Try.prog 127 = true := by kernel_rfl
theorem t128_k : known Go.Proofs.Try.prog 128 = true := by kernel_rfl
theorem t128_a : aggT Go.Proofs.Try.prog 128 = true := by kernel_rfl
theorem t128_if : isIfaceT Go.Proofs.Try.prog 128 = false := by kernel_rfl
theorem t129_k : known Go.Proofs.Try.prog 129 = true := by kernel_rfl
theorem t129_a : aggT Go.Proofs.Try.prog 129 = true := by kernel_rfl
theorem t129_if : isIfaceT Go.Proofs.Try.prog 129 = false := by kernel_rfl
theorem t135_k : known Go.Proofs.Try.prog 135 = true := by kernel_rfl
theorem t135_a : aggT Go.Proofs.Try.prog 135 = false := by kernel_rfl
theorem t135_if : isIfaceT Go.Proofs.Try.prog 135 = false := by kernel_rfl
theorem t135_e : elemT Go.Proofs.Try.prog 135 = some 153 := by kernel_rfl
theorem t135_s : isStrT Go.Proofs.Try.prog 135 = false := by kernel_rfl
theorem t136_k : known Go.Proofs.Try.prog 136 = true := by kernel_rfl
theorem t136_a : aggT Go.Proofs.Try.prog 136 = false := by kernel_rfl
theorem t136_if : isIfaceT Go.Proofs.Try.prog 136 = false := by kernel_rfl
theorem t136_i : intT Go.Proofs.Try.prog 136 = some .u16 := by kernel_rfl
theorem t137_k : known Go.Proofs.Try.prog 137 = true := by kernel_rfl
theorem t137_a : aggT Go.Proofs.Try.prog 137 = true := by kernel_rfl
theorem t137_if : isIfaceT Go.Proofs.Try.prog 137 = false := by kernel_rfl
theorem t137_ea : eqAggT Go.Proofs.Try.prog 137 = true := by kernel_rfl
theorem t137_ar : arrT Go.Proofs.Try.prog 137 = some (16, 136) := by kernel_rfl
theorem t137_pl : placesT Go.Proofs.Try.prog 137 = none := by kernel_rfl
theorem t138_k : known Go.Proofs.Try.prog 138 = true := by kernel_rfl
theorem t138_a : aggT Go.Proofs.Try.prog 138 = true := by kernel_rfl
theorem t138_if : isIfaceT Go.Proofs.Try.prog 138 = false := by kernel_rfl
theorem t138_ea : eqAggT Go.Proofs.Try.prog 138 = true := by kernel_rfl
theorem t138_ar : arrT Go.Proofs.Try.prog 138 = some (12, 137) := by kernel_rfl
theorem t138_pl : placesT Go.Proofs.Try.prog 138 = none := by kernel_rfl
theorem t139_k : known Go.Proofs.Try.prog 139 = true := by kernel_rfl
theorem t139_a : aggT Go.Proofs.Try.prog 139 = true := by kernel_rfl
theorem t139_if : isIfaceT Go.Proofs.Try.prog 139 = false := by kernel_rfl
theorem t139_ea : eqAggT Go.Proofs.Try.prog 139 = true := by kernel_rfl
theorem t139_ar : arrT Go.Proofs.Try.prog 139 = some (12, 136) := by kernel_rfl
theorem t139_pl : placesT Go.Proofs.Try.prog 139 = none := by kernel_rfl
theorem t140_k : known Go.Proofs.Try.prog 140 = true := by kernel_rfl
theorem t140_a : aggT Go.Proofs.Try.prog 140 = true := by kernel_rfl
theorem t140_if : isIfaceT Go.Proofs.Try.prog 140 = false := by kernel_rfl
theorem t140_ea : eqAggT Go.Proofs.Try.prog 140 = true := by kernel_rfl
theorem t140_ar : arrT Go.Proofs.Try.prog 140 = some (1, 136) := by kernel_rfl
theorem t140_pl : placesT Go.Proofs.Try.prog 140 = none := by kernel_rfl
theorem t141_k : known Go.Proofs.Try.prog 141 = true := by kernel_rfl
theorem t141_a : aggT Go.Proofs.Try.prog 141 = true := by kernel_rfl
theorem t141_if : isIfaceT Go.Proofs.Try.prog 141 = false := by kernel_rfl
theorem t141_ea : eqAggT Go.Proofs.Try.prog 141 = true := by kernel_rfl
theorem t141_ar : arrT Go.Proofs.Try.prog 141 = some (8, 136) := by kernel_rfl
theorem t141_pl : placesT Go.Proofs.Try.prog 141 = none := by kernel_rfl
theorem t142_k : known Go.Proofs.Try.prog 142 = true := by kernel_rfl
theorem t142_a : aggT Go.Proofs.Try.prog 142 = true := by kernel_rfl
theorem t142_if : isIfaceT Go.Proofs.Try.prog 142 = false := by kernel_rfl
theorem t142_ea : eqAggT Go.Proofs.Try.prog 142 = true := by kernel_rfl
theorem t142_ar : arrT Go.Proofs.Try.prog 142 = some (16, 141) := by kernel_rfl
theorem t142_pl : placesT Go.Proofs.Try.prog 142 = none := by kernel_rfl
theorem t143_k : known Go.Proofs.Try.prog 143 = true := by kernel_rfl
theorem t143_a : aggT Go.Proofs.Try.prog 143 = true := by kernel_rfl
theorem t143_if : isIfaceT Go.Proofs.Try.prog 143 = false := by kernel_rfl
theorem t143_ea : eqAggT Go.Proofs.Try.prog 143 = true := by kernel_rfl
theorem t143_ar : arrT Go.Proofs.Try.prog 143 = some (256, 136) := by kernel_rfl
theorem t143_pl : placesT Go.Proofs.Try.prog 143 = none := by kernel_rfl
theorem t144_k : known Go.Proofs.Try.prog 144 = true := by kernel_rfl
theorem t144_a : aggT Go.Proofs.Try.prog 144 = true := by kernel_rfl
theorem t144_if : isIfaceT Go.Proofs.Try.prog 144 = false := by kernel_rfl
theorem t144_ea : eqAggT Go.Proofs.Try.prog 144 = true := by kernel_rfl
theorem t145_k : known Go.Proofs.Try.prog 145 = true := by kernel_rfl
theorem t145_a : aggT Go.Proofs.Try.prog 145 = true := by kernel_rfl
theorem t145_if : isIfaceT Go.Proofs.Try.prog 145 = false := by kernel_rfl
theorem t145_ea : eqAggT Go.Proofs.Try.prog 145 = true := by kernel_rfl
theorem t146_k : known Go.Proofs.Try.prog 146 = true := by kernel_rfl
theorem t146_a : aggT Go.Proofs.Try.prog 146 = true := by kernel_rfl
theorem t146_if : isIfaceT Go.Proofs.Try.prog 146 = false := by kernel_rfl
theorem t146_ea : eqAggT Go.Proofs.Try.prog 146 = true := by kernel_rfl
theorem t146_ar : arrT Go.Proofs.Try.prog 146 = some (64, 136) := by kernel_rfl
theorem t146_pl : placesT Go.Proofs.Try.prog 146 = none := by kernel_rfl
theorem t147_k : known Go.Proofs.Try.prog 147 = true := by kernel_rfl
theorem t147_a : aggT Go.Proofs.Try.prog 147 = true := by kernel_rfl
theorem t147_if : isIfaceT Go.Proofs.Try.prog 147 = false := by kernel_rfl
theorem t147_ea : eqAggT Go.Proofs.Try.prog 147 = true := by kernel_rfl
theorem t147_ar : arrT Go.Proofs.Try.prog 147 = some (4, 146) := by kernel_rfl
theorem t147_pl : placesT Go.Proofs.Try.prog 147 = none := by kernel_rfl
theorem t148_k : known Go.Proofs.Try.prog 148 = true := by kernel_rfl
theorem t148_a : aggT Go.Proofs.Try.prog 148 = true := by kernel_rfl
theorem t148_if : isIfaceT Go.Proofs.Try.prog 148 = false := by kernel_rfl
theorem t148_ea : eqAggT Go.Proofs.Try.prog 148 = true := by kernel_rfl
theorem t148_ar : arrT Go.Proofs.Try.prog 148 = some (32, 136) := by kernel_rfl
theorem t148_pl : placesT Go.Proofs.Try.prog 148 = none := by kernel_rfl
theorem t149_k : known Go.Proofs.Try.prog 149 = true := by kernel_rfl
theorem t149_a : aggT Go.Proofs.Try.prog 149 = true := by kernel_rfl
theorem t149_if : isIfaceT Go.Proofs.Try.prog 149 = false := by kernel_rfl
theorem t149_ea : eqAggT Go.Proofs.Try.prog 149 = true := by kernel_rfl
theorem t149_ar : arrT Go.Proofs.Try.prog 149 = some (14, 148) := by kernel_rfl
theorem t149_pl : placesT Go.Proofs.Try.prog 149 = none := by kernel_rfl
theorem t150_k : known Go.Proofs.Try.prog 150 = true := by kernel_rfl
theorem t150_a : aggT Go.Proofs.Try.prog 150 = true := by kernel_rfl
theorem t150_if : isIfaceT Go.Proofs.Try.prog 150 = false := by kernel_rfl
theorem t151_k : known Go.Proofs.Try.prog 151 = true := by kernel_rfl
theorem t151_a : aggT Go.Proofs.Try.prog 151 = true := by kernel_rfl
theorem t151_if : isIfaceT Go.Proofs.Try.prog 151 = false := by kernel_rfl
theorem t153_k : known Go.Proofs.Try.prog 153 = true := by kernel_rfl
theorem t153_a : aggT Go.Proofs.Try.prog 153 = true := by kernel_rfl
theorem t153_if : isIfaceT Go.Proofs.Try.prog 153 = false := by kernel_rfl
theorem t153_ea : eqAggT Go.Proofs.Try.prog 153 = true := by kernel_rfl
theorem t153_ar : arrT Go.Proofs.Try.prog 153 = some (768, 136) := by kernel_rfl
theorem t153_pl : placesT Go.Proofs.Try.prog 153 = none := by kernel_rfl
theorem t154_k : known Go.Proofs.Try.prog 154 = true := by kernel_rfl
theorem t154_a : aggT Go.Proofs.Try.prog 154 = false := by kernel_rfl
theorem t154_if : isIfaceT Go.Proofs.Try.prog 154 = false := by kernel_rfl
theorem t154_e : elemT Go.Proofs.Try.prog 154 = some 78 := by kernel_rfl
theorem t154_s : isStrT Go.Proofs.Try.prog 154 = false := by kernel_rfl
theorem t155_k : known Go.Proofs.Try.prog 155 = true := by kernel_rfl
theorem t155_a : aggT Go.Proofs.Try.prog 155 = true := by kernel_rfl
theorem t155_if : isIfaceT Go.Proofs.Try.prog 155 = false := by kernel_rfl
theorem t156_k : known Go.Proofs.Try.prog 156 = true := by kernel_rfl
theorem t156_a : aggT Go.Proofs.Try.prog 156 = true := by kernel_rfl
theorem t156_if : isIfaceT Go.Proofs.Try.prog 156 = false := by kernel_rfl
theorem t157_k : known Go.Proofs.Try.prog 157 = true := by kernel_rfl
theorem t157_a : aggT Go.Proofs.Try.prog 157 = true := by kernel_rfl
theorem t157_if : isIfaceT Go.Proofs.Try.prog 157 = false := by kernel_rfl
theorem t158_k : known Go.Proofs.Try.prog 158 = true := by kernel_rfl
theorem t158_a : aggT Go.Proofs.Try.prog 158 = true := by kernel_rfl
theorem t158_if : isIfaceT Go.Proofs.Try.prog 158 = false := by kernel_rfl
theorem t163_k : known Go.Proofs.Try.prog 163 = true := by kernel_rfl
theorem t163_a : aggT Go.Proofs.Try.prog 163 = true := by kernel_rfl
theorem t163_if : isIfaceT Go.Proofs.Try.prog 163 = false := by kernel_rfl
theorem t164_k : known Go.Proofs.Try.prog 164 = true := by kernel_rfl
theorem t164_a : aggT Go.Proofs.Try.prog 164 = true := by kernel_rfl
theorem t164_if : isIfaceT Go.Proofs.Try.prog 164 = false := by kernel_rfl
theorem t165_k : known Go.Proofs.Try.prog 165 = true := by kernel_rfl
theorem t165_a : aggT Go.Proofs.Try.prog 165 = false := by kernel_rfl
theorem t165_if : isIfaceT Go.Proofs.Try.prog 165 = true := by kernel_rfl
theorem t166_k : known Go.Proofs.Try.prog 166 = true := by kernel_rfl
theorem t166_a : aggT Go.Proofs.Try.prog 166 = false := by kernel_rfl
theorem t166_if : isIfaceT Go.Proofs.Try.prog 166 = true := by kernel_rfl
theorem t167_k : known Go.Proofs.Try.prog 167 = true := by kernel_rfl
theorem t167_a : aggT Go.Proofs.Try.prog 167 = true := by kernel_rfl
theorem t167_if : isIfaceT Go.Proofs.Try.prog 167 = false := by kernel_rfl
theorem t168_k : known Go.Proofs.Try.prog 168 = true := by kernel_rfl
theorem t168_a : aggT Go.Proofs.Try.prog 168 = true := by kernel_rfl
theorem t168_if : isIfaceT Go.Proofs.Try.prog 168 = false := by kernel_rfl
theorem t170_k : known Go.Proofs.Try.prog 170 = true := by kernel_rfl
theorem t170_a : aggT Go.Proofs.Try.prog 170 = false := by kernel_rfl
theorem t170_if : isIfaceT Go.Proofs.Try.prog 170 = false := by kernel_rfl
theorem t170_p : isPtrT Go.Proofs.Try.prog 170 = true := by kernel_rfl
theorem t172_k : known Go.Proofs.Try.prog 172 = true := by kernel_rfl
theorem t172_a : aggT Go.Proofs.Try.prog 172 = false := by kernel_rfl
theorem t172_if : isIfaceT Go.Proofs.Try.prog 172 = false := by kernel_rfl
theorem t172_p : isPtrT Go.Proofs.Try.prog 172 = true := by kernel_rfl
theorem t174_k : known Go.Proofs.Try.prog 174 = true := by kernel_rfl
theorem t174_a : aggT Go.Proofs.Try.prog 174 = false := by kernel_rfl
theorem t174_if : isIfaceT Go.Proofs.Try.prog 174 = false := by kernel_rfl
theorem t174_fn : isFuncT Go.Proofs.Try.prog 174 = true := by kernel_rfl
theorem t177_k : known Go.Proofs.Try.prog 177 = true := by kernel_rfl
theorem t177_a : aggT Go.Proofs.Try.prog 177 = true := by kernel_rfl
theorem t177_if : isIfaceT Go.Proofs.Try.prog 177 = false := by kernel_rfl
theorem t178_k : known Go.Proofs.Try.prog 178 = true := by kernel_rfl
theorem t178_a : aggT Go.Proofs.Try.prog 178 = true := by kernel_rfl
theorem t178_if : isIfaceT Go.Proofs.Try.prog 178 = false := by kernel_rfl
theorem t180_k : known Go.Proofs.Try.prog 180 = true := by kernel_rfl
theorem t180_a : aggT Go.Proofs.Try.prog 180 = false := by kernel_rfl
theorem t180_if : isIfaceT Go.Proofs.Try.prog 180 = false := by kernel_rfl
theorem t180_p : isPtrT Go.Proofs.Try.prog 180 = true := by kernel_rfl
theorem t181_k : known Go.Proofs.Try.prog 181 = true := by kernel_rfl
theorem t181_a : aggT Go.Proofs.Try.prog 181 = true := by kernel_rfl
theorem t181_if : isIfaceT Go.Proofs.Try.prog 181 = false := by kernel_rfl
theorem t181_ea : eqAggT Go.Proofs.Try.prog 181 = true := by kernel_rfl
theorem t181_ar : arrT Go.Proofs.Try.prog 181 = some (3, 3) := by kernel_rfl
theorem t181_pl : placesT Go.Proofs.Try.prog 181 = none := by kernel_rfl
theorem t182_k : known Go.Proofs.Try.prog 182 = true := by kernel_rfl
theorem t182_a : aggT Go.Proofs.Try.prog 182 = true := by kernel_rfl
theorem t182_if : isIfaceT Go.Proofs.Try.prog 182 = false := by kernel_rfl
theorem t183_k : known Go.Proofs.Try.prog 183 = true := by kernel_rfl
theorem t183_a : aggT Go.Proofs.Try.prog 183 = true := by kernel_rfl
theorem t183_if : isIfaceT Go.Proofs.Try.prog 183 = false := by kernel_rfl
theorem t184_k : known Go.Proofs.Try.prog 184 = true := by kernel_rfl
theorem t184_a : aggT Go.Proofs.Try.prog 184 = false := by kernel_rfl
theorem t184_if : isIfaceT Go.Proofs.Try.prog 184 = false := by kernel_rfl
theorem t184_p : isPtrT Go.Proofs.Try.prog 184 = true := by kernel_rfl
theorem t185_k : known Go.Proofs.Try.prog 185 = true := by kernel_rfl
theorem t185_a : aggT Go.Proofs.Try.prog 185 = true := by kernel_rfl
theorem t185_if : isIfaceT Go.Proofs.Try.prog 185 = false := by kernel_rfl
theorem t186_k : known Go.Proofs.Try.prog 186 = true := by kernel_rfl
theorem t186_a : aggT Go.Proofs.Try.prog 186 = true := by kernel_rfl
theorem t186_if : isIfaceT Go.Proofs.Try.prog 186 = false := by kernel_rfl
theorem t188_k : known Go.Proofs.Try.prog 188 = true := by kernel_rfl
theorem t188_a : aggT Go.Proofs.Try.prog 188 = false := by kernel_rfl
theorem t188_if : isIfaceT Go.Proofs.Try.prog 188 = false := by kernel_rfl
theorem t188_p : isPtrT Go.Proofs.Try.prog 188 = true := by kernel_rfl
theorem t191_k : known Go.Proofs.Try.prog 191 = true := by kernel_rfl
theorem t191_a : aggT Go.Proofs.Try.prog 191 = false := by kernel_rfl
theorem t191_if : isIfaceT Go.Proofs.Try.prog 191 = false := by kernel_rfl
theorem t191_p : isPtrT Go.Proofs.Try.prog 191 = true := by kernel_rfl
theorem t192_k : known Go.Proofs.Try.prog 192 = true := by kernel_rfl
theorem t192_a : aggT Go.Proofs.Try.prog 192 = true := by kernel_rfl
theorem t192_if : isIfaceT Go.Proofs.Try.prog 192 = false := by kernel_rfl
theorem t193_k : known Go.Proofs.Try.prog 193 = true := by kernel_rfl
theorem t193_a : aggT Go.Proofs.Try.prog 193 = true := by kernel_rfl
theorem t193_if : isIfaceT Go.Proofs.Try.prog 193 = false := by kernel_rfl
theorem t194_k : known Go.Proofs.Try.prog 194 = true := by kernel_rfl
theorem t194_a : aggT Go.Proofs.Try.prog 194 = false := by kernel_rfl
theorem t194_if : isIfaceT Go.Proofs.Try.prog 194 = false := by kernel_rfl
theorem t194_fn : isFuncT Go.Proofs.Try.prog 194 = true := by kernel_rfl
theorem t195_k : known Go.Proofs.Try.prog 195 = true := by kernel_rfl
theorem t195_a : aggT Go.Proofs.Try.prog 195 = false := by kernel_rfl
theorem t195_if : isIfaceT Go.Proofs.Try.prog 195 = false := by kernel_rfl
theorem t195_fn : isFuncT Go.Proofs.Try.prog 195 = true := by kernel_rfl
theorem t199_k : known Go.Proofs.Try.prog 199 = true := by kernel_rfl
theorem t199_a : aggT Go.Proofs.Try.prog 199 = true := by kernel_rfl
theorem t199_if : isIfaceT Go.Proofs.Try.prog 199 = false := by kernel_rfl
theorem t199_ea : eqAggT Go.Proofs.Try.prog 199 = true := by kernel_rfl
theorem t199_ar : arrT Go.Proofs.Try.prog 199 = some (32, 5) := by kernel_rfl
theorem t199_pl : placesT Go.Proofs.Try.prog 199 = none := by kernel_rfl
theorem t203_k : known Go.Proofs.Try.prog 203 = true := by kernel_rfl
theorem t203_a : aggT Go.Proofs.Try.prog 203 = false := by kernel_rfl
theorem t203_if : isIfaceT Go.Proofs.Try.prog 203 = false := by kernel_rfl
theorem t203_e : elemT Go.Proofs.Try.prog 203 = some 108 := by kernel_rfl
theorem t203_s : isStrT Go.Proofs.Try.prog 203 = false := by kernel_rfl
theorem t208_k : known Go.Proofs.Try.prog 208 = true := by kernel_rfl
theorem t208_a : aggT Go.Proofs.Try.prog 208 = false := by kernel_rfl
theorem t208_if : isIfaceT Go.Proofs.Try.prog 208 = false := by kernel_rfl
theorem t208_fn : isFuncT Go.Proofs.Try.prog 208 = true := by kernel_rfl
theorem t209_k : known Go.Proofs.Try.prog 209 = true := by kernel_rfl
theorem t209_a : aggT Go.Proofs.Try.prog 209 = false := by kernel_rfl
theorem t209_if : isIfaceT Go.Proofs.Try.prog 209 = false := by kernel_rfl
theorem t209_fn : isFuncT Go.Proofs.Try.prog 209 = true := by kernel_rfl
theorem t220_k : known Go.Proofs.Try.prog 220 = true := by kernel_rfl
theorem t220_a : aggT Go.Proofs.Try.prog 220 = false := by kernel_rfl
theorem t220_if : isIfaceT Go.Proofs.Try.prog 220 = false := by kernel_rfl
theorem t220_fn : isFuncT Go.Proofs.Try.prog 220 = true := by kernel_rfl
theorem t228_k : known Go.Proofs.Try.prog 228 = true := by kernel_rfl
theorem t228_a : aggT Go.Proofs.Try.prog 228 = false := by kernel_rfl
theorem t228_if : isIfaceT Go.Proofs.Try.prog 228 = false := by kernel_rfl
theorem t228_mx : mxT Go.Proofs.Try.prog 228 = some (.b, 77) := by kernel_rfl
theorem t229_k : known Go.Proofs.Try.prog 229 = true := by kernel_rfl
theorem t229_a : aggT Go.Proofs.Try.prog 229 = true := by kernel_rfl
theorem t229_if : isIfaceT Go.Proofs.Try.prog 229 = false := by kernel_rfl
theorem t230_k : known Go.Proofs.Try.prog 230 = true := by kernel_rfl
theorem t230_a : aggT Go.Proofs.Try.prog 230 = true := by kernel_rfl
theorem t230_if : isIfaceT Go.Proofs.Try.prog 230 = false := by kernel_rfl
theorem t231_k : known Go.Proofs.Try.prog 231 = true := by kernel_rfl
theorem t231_a : aggT Go.Proofs.Try.prog 231 = true := by kernel_rfl
theorem t231_if : isIfaceT Go.Proofs.Try.prog 231 = false := by kernel_rfl
theorem t231_ea : eqAggT Go.Proofs.Try.prog 231 = true := by kernel_rfl
theorem t231_ar : arrT Go.Proofs.Try.prog 231 = some (2, 5) := by kernel_rfl
theorem t231_pl : placesT Go.Proofs.Try.prog 231 = none := by kernel_rfl
theorem t232_k : known Go.Proofs.Try.prog 232 = true := by kernel_rfl
theorem t232_a : aggT Go.Proofs.Try.prog 232 = true := by kernel_rfl
theorem t232_if : isIfaceT Go.Proofs.Try.prog 232 = false := by kernel_rfl
theorem t232_ea : eqAggT Go.Proofs.Try.prog 232 = true := by kernel_rfl
theorem t232_ar : arrT Go.Proofs.Try.prog 232 = some (2, 5) := by kernel_rfl
theorem t232_pl : placesT Go.Proofs.Try.prog 232 = none := by kernel_rfl
theorem t236_k : known Go.Proofs.Try.prog 236 = true := by kernel_rfl
theorem t236_a : aggT Go.Proofs.Try.prog 236 = false := by kernel_rfl
theorem t236_if : isIfaceT Go.Proofs.Try.prog 236 = false := by kernel_rfl
theorem t236_p : isPtrT Go.Proofs.Try.prog 236 = true := by kernel_rfl
theorem t240_k : known Go.Proofs.Try.prog 240 = true := by kernel_rfl
theorem t240_a : aggT Go.Proofs.Try.prog 240 = false := by kernel_rfl
theorem t240_if : isIfaceT Go.Proofs.Try.prog 240 = false := by kernel_rfl
theorem t240_e : elemT Go.Proofs.Try.prog 240 = some 116 := by kernel_rfl
theorem t240_s : isStrT Go.Proofs.Try.prog 240 = false := by kernel_rfl
theorem t241_k : known Go.Proofs.Try.prog 241 = true := by kernel_rfl
theorem t241_a : aggT Go.Proofs.Try.prog 241 = false := by kernel_rfl
theorem t241_if : isIfaceT Go.Proofs.Try.prog 241 = false := by kernel_rfl
theorem t241_fn : isFuncT Go.Proofs.Try.prog 241 = true := by kernel_rfl
theorem t243_k : known Go.Proofs.Try.prog 243 = true := by kernel_rfl
theorem t243_a : aggT Go.Proofs.Try.prog 243 = false := by kernel_rfl
theorem t243_if : isIfaceT Go.Proofs.Try.prog 243 = false := by kernel_rfl
theorem t243_fn : isFuncT Go.Proofs.Try.prog 243 = true := by kernel_rfl
theorem t254_k : known Go.Proofs.Try.prog 254 = true := by kernel_rfl
theorem t254_a : aggT Go.Proofs.Try.prog 254 = true := by kernel_rfl
theorem t254_if : isIfaceT Go.Proofs.Try.prog 254 = false := by kernel_rfl
theorem t254_ea : eqAggT Go.Proofs.Try.prog 254 = true := by kernel_rfl
theorem t254_ar : arrT Go.Proofs.Try.prog 254 = some (256, 108) := by kernel_rfl
theorem t254_pl : placesT Go.Proofs.Try.prog 254 = none := by kernel_rfl
theorem t255_k : known Go.Proofs.Try.prog 255 = true := by kernel_rfl
theorem t255_a : aggT Go.Proofs.Try.prog 255 = true := by kernel_rfl
theorem t255_if : isIfaceT Go.Proofs.Try.prog 255 = false := by kernel_rfl
theorem t255_ea : eqAggT Go.Proofs.Try.prog 255 = true := by kernel_rfl
theorem t255_ar : arrT Go.Proofs.Try.prog 255 = some (4, 254) := by kernel_rfl
theorem t255_pl : placesT Go.Proofs.Try.prog 255 = none := by kernel_rfl
theorem t257_k : known Go.Proofs.Try.prog 257 = true := by kernel_rfl
theorem t257_a : aggT Go.Proofs.Try.prog 257 = true := by kernel_rfl
theorem t257_if : isIfaceT Go.Proofs.Try.prog 257 = false := by kernel_rfl
theorem t257_ea : eqAggT Go.Proofs.Try.prog 257 = true := by kernel_rfl
theorem t257_ar : arrT Go.Proofs.Try.prog 257 = some (256, 116) := by kernel_rfl
theorem t257_pl : placesT Go.Proofs.Try.prog 257 = none := by kernel_rfl
theorem t259_k : known Go.Proofs.Try.prog 259 = true := by kernel_rfl
theorem t259_a : aggT Go.Proofs.Try.prog 259 = true := by kernel_rfl
theorem t259_if : isIfaceT Go.Proofs.Try.prog 259 = false := by kernel_rfl
theorem t259_ea : eqAggT Go.Proofs.Try.prog 259 = true := by kernel_rfl
theorem t259_ar : arrT Go.Proofs.Try.prog 259 = some (8, 108) := by kernel_rfl
theorem t259_pl : placesT Go.Proofs.Try.prog 259 = none := by kernel_rfl
theorem t261_k : known Go.Proofs.Try.prog 261 = true := by kernel_rfl
theorem t261_a : aggT Go.Proofs.Try.prog 261 = true := by kernel_rfl
theorem t261_if : isIfaceT Go.Proofs.Try.prog 261 = false := by kernel_rfl
theorem t262_k : known Go.Proofs.Try.prog 262 = true := by kernel_rfl
theorem t262_a : aggT Go.Proofs.Try.prog 262 = true := by kernel_rfl
theorem t262_if : isIfaceT Go.Proofs.Try.prog 262 = false := by kernel_rfl
theorem t265_k : known Go.Proofs.Try.prog 265 = true := by kernel_rfl
theorem t265_a : aggT Go.Proofs.Try.prog 265 = false := by kernel_rfl
theorem t265_if : isIfaceT Go.Proofs.Try.prog 265 = false := by kernel_rfl
theorem t265_p : isPtrT Go.Proofs.Try.prog 265 = true := by kernel_rfl
theorem t266_k : known Go.Proofs.Try.prog 266 = true := by kernel_rfl
theorem t266_a : aggT Go.Proofs.Try.prog 266 = true := by kernel_rfl
theorem t266_if : isIfaceT Go.Proofs.Try.prog 266 = false := by kernel_rfl
theorem t267_k : known Go.Proofs.Try.prog 267 = true := by kernel_rfl
theorem t267_a : aggT Go.Proofs.Try.prog 267 = true := by kernel_rfl
theorem t267_if : isIfaceT Go.Proofs.Try.prog 267 = false := by kernel_rfl
theorem t271_k : known Go.Proofs.Try.prog 271 = true := by kernel_rfl
theorem t271_a : aggT Go.Proofs.Try.prog 271 = true := by kernel_rfl
theorem t271_if : isIfaceT Go.Proofs.Try.prog 271 = false := by kernel_rfl
theorem t271_ea : eqAggT Go.Proofs.Try.prog 271 = true := by kernel_rfl
theorem t271_ar : arrT Go.Proofs.Try.prog 271 = some (64, 108) := by kernel_rfl
theorem t271_pl : placesT Go.Proofs.Try.prog 271 = none := by kernel_rfl
theorem t279_k : known Go.Proofs.Try.prog 279 = true := by kernel_rfl
theorem t279_a : aggT Go.Proofs.Try.prog 279 = true := by kernel_rfl
theorem t279_if : isIfaceT Go.Proofs.Try.prog 279 = false := by kernel_rfl
theorem t280_k : known Go.Proofs.Try.prog 280 = true := by kernel_rfl
theorem t280_a : aggT Go.Proofs.Try.prog 280 = true := by kernel_rfl
theorem t280_if : isIfaceT Go.Proofs.Try.prog 280 = false := by kernel_rfl
theorem t281_k : known Go.Proofs.Try.prog 281 = true := by kernel_rfl
theorem t281_a : aggT Go.Proofs.Try.prog 281 = true := by kernel_rfl
theorem t281_if : isIfaceT Go.Proofs.Try.prog 281 = false := by kernel_rfl
theorem t281_ar : arrT Go.Proofs.Try.prog 281 = some (0, 16) := by kernel_rfl
theorem t281_pl : placesT Go.Proofs.Try.prog 281 = none := by kernel_rfl
theorem t282_k : known Go.Proofs.Try.prog 282 = true := by kernel_rfl
theorem t282_a : aggT Go.Proofs.Try.prog 282 = true := by kernel_rfl
theorem t282_if : isIfaceT Go.Proofs.Try.prog 282 = false := by kernel_rfl
theorem t283_k : known Go.Proofs.Try.prog 283 = true := by kernel_rfl
theorem t283_a : aggT Go.Proofs.Try.prog 283 = true := by kernel_rfl
theorem t283_if : isIfaceT Go.Proofs.Try.prog 283 = false := by kernel_rfl
theorem t284_k : known Go.Proofs.Try.prog 284 = true := by kernel_rfl
theorem t284_a : aggT Go.Proofs.Try.prog 284 = false := by kernel_rfl
theorem t284_if : isIfaceT Go.Proofs.Try.prog 284 = false := by kernel_rfl
theorem t284_i : intT Go.Proofs.Try.prog 284 = some .u8 := by kernel_rfl
theorem t285_k : known Go.Proofs.Try.prog 285 = true := by kernel_rfl
theorem t285_a : aggT Go.Proofs.Try.prog 285 = false := by kernel_rfl
theorem t285_if : isIfaceT Go.Proofs.Try.prog 285 = false := by kernel_rfl
theorem t285_i : intT Go.Proofs.Try.prog 285 = some .u8 := by kernel_rfl
theorem t286_k : known Go.Proofs.Try.prog 286 = true := by kernel_rfl
theorem t286_a : aggT Go.Proofs.Try.prog 286 = false := by kernel_rfl
theorem t286_if : isIfaceT Go.Proofs.Try.prog 286 = false := by kernel_rfl
theorem t286_fn : isFuncT Go.Proofs.Try.prog 286 = true := by kernel_rfl
theorem t287_k : known Go.Proofs.Try.prog 287 = true := by kernel_rfl
theorem t287_a : aggT Go.Proofs.Try.prog 287 = false := by kernel_rfl
theorem t287_if : isIfaceT Go.Proofs.Try.prog 287 = false := by kernel_rfl
theorem t287_p : isPtrT Go.Proofs.Try.prog 287 = true := by kernel_rfl
theorem t288_k : known Go.Proofs.Try.prog 288 = true := by kernel_rfl
theorem t288_a : aggT Go.Proofs.Try.prog 288 = false := by kernel_rfl
theorem t288_if : isIfaceT Go.Proofs.Try.prog 288 = false := by kernel_rfl
theorem t288_i : intT Go.Proofs.Try.prog 288 = some .i32 := by kernel_rfl
theorem t289_k : known Go.Proofs.Try.prog 289 = true := by kernel_rfl
theorem t289_a : aggT Go.Proofs.Try.prog 289 = false := by kernel_rfl
theorem t289_if : isIfaceT Go.Proofs.Try.prog 289 = false := by kernel_rfl
theorem t289_i : intT Go.Proofs.Try.prog 289 = some .i32 := by kernel_rfl
theorem t290_k : known Go.Proofs.Try.prog 290 = true := by kernel_rfl
theorem t290_a : aggT Go.Proofs.Try.prog 290 = true := by kernel_rfl
theorem t290_if : isIfaceT Go.Proofs.Try.prog 290 = false := by kernel_rfl
theorem t291_k : known Go.Proofs.Try.prog 291 = true := by kernel_rfl
theorem t291_a : aggT Go.Proofs.Try.prog 291 = true := by kernel_rfl
theorem t291_if : isIfaceT Go.Proofs.Try.prog 291 = false := by kernel_rfl
theorem t293_k : known Go.Proofs.Try.prog 293 = true := by kernel_rfl
theorem t293_a : aggT Go.Proofs.Try.prog 293 = true := by kernel_rfl
theorem t293_if : isIfaceT Go.Proofs.Try.prog 293 = false := by kernel_rfl
theorem t293_ea : eqAggT Go.Proofs.Try.prog 293 = true := by kernel_rfl
theorem t294_k : known Go.Proofs.Try.prog 294 = true := by kernel_rfl
theorem t294_a : aggT Go.Proofs.Try.prog 294 = true := by kernel_rfl
theorem t294_if : isIfaceT Go.Proofs.Try.prog 294 = false := by kernel_rfl
theorem t294_ea : eqAggT Go.Proofs.Try.prog 294 = true := by kernel_rfl
theorem t1_sz : sizeT Go.Proofs.Try.prog 1 = some 1 := by kernel_rfl
theorem t1_by : bytesT Go.Proofs.Try.prog 1 = some 8 := by kernel_rfl
theorem t1_z : zav Go.Proofs.Try.prog 1 = some [.nilf] := by kernel_rfl
theorem t1_d : dflt Go.Proofs.Try.prog 1 = .nilf := by kernel_rfl
theorem t1_zv : zval Go.Proofs.Try.prog 1 = some (.nilf) := by kernel_rfl
theorem t2_sz : sizeT Go.Proofs.Try.prog 2 = some 1 := by kernel_rfl
theorem t2_by : bytesT Go.Proofs.Try.prog 2 = some 8 := by kernel_rfl
theorem t2_z : zav Go.Proofs.Try.prog 2 = some [.int .i64 0] := by kernel_rfl
theorem t2_d : dflt Go.Proofs.Try.prog 2 = .int .i64 0 := by kernel_rfl
theorem t2_zv : zval Go.Proofs.Try.prog 2 = some (.int .i64 0) := by kernel_rfl
theorem t3_sz : sizeT Go.Proofs.Try.prog 3 = some 1 := by kernel_rfl
theorem t3_by : bytesT Go.Proofs.Try.prog 3 = some 8 := by kernel_rfl
theorem t3_z : zav Go.Proofs.Try.prog 3 = some [.int .i64 0] := by kernel_rfl
theorem t3_d : dflt Go.Proofs.Try.prog 3 = .int .i64 0 := by kernel_rfl
theorem t3_zv : zval Go.Proofs.Try.prog 3 = some (.int .i64 0) := by kernel_rfl
theorem t4_sz : sizeT Go.Proofs.Try.prog 4 = some 1 := by kernel_rfl
theorem t4_by : bytesT Go.Proofs.Try.prog 4 = some 1 := by kernel_rfl
theorem t4_z : zav Go.Proofs.Try.prog 4 = some [.bool false] := by kernel_rfl
theorem t4_d : dflt Go.Proofs.Try.prog 4 = .bool false := by kernel_rfl
theorem t4_zv : zval Go.Proofs.Try.prog 4 = some (.bool false) := by kernel_rfl
theorem t5_sz : sizeT Go.Proofs.Try.prog 5 = some 1 := by kernel_rfl
theorem t5_by : bytesT Go.Proofs.Try.prog 5 = some 1 := by kernel_rfl
theorem t5_z : zav Go.Proofs.Try.prog 5 = some [.int .u8 0] := by kernel_rfl
theorem t5_d : dflt Go.Proofs.Try.prog 5 = .int .u8 0 := by kernel_rfl
theorem t5_zv : zval Go.Proofs.Try.prog 5 = some (.int .u8 0) := by kernel_rfl
theorem t6_sz : sizeT Go.Proofs.Try.prog 6 = some 1 := by kernel_rfl
theorem t6_by : bytesT Go.Proofs.Try.prog 6 = some 1 := by kernel_rfl
theorem t6_z : zav Go.Proofs.Try.prog 6 = some [.int .u8 0] := by kernel_rfl
theorem t6_d : dflt Go.Proofs.Try.prog 6 = .int .u8 0 := by kernel_rfl
theorem t6_zv : zval Go.Proofs.Try.prog 6 = some (.int .u8 0) := by kernel_rfl
theorem t7_sz : sizeT Go.Proofs.Try.prog 7 = some 4 := by kernel_rfl
theorem t7_z : zav Go.Proofs.Try.prog 7 = some [.int .i64 0, .int .i64 0, .bool false, .int .u8 0] := by kernel_rfl
theorem t7_zv : zval Go.Proofs.Try.prog 7 = some (.agg [.int .i64 0, .int .i64 0, .bool false, .int .u8 0]) := by kernel_rfl
theorem t7_f0 : fieldT Go.Proofs.Try.prog 7 0 = some (0, 2) := by kernel_rfl
theorem t7_f1 : fieldT Go.Proofs.Try.prog 7 1 = some (1, 3) := by kernel_rfl
theorem t7_f2 : fieldT Go.Proofs.Try.prog 7 2 = some (2, 4) := by kernel_rfl
theorem t7_f3 : fieldT Go.Proofs.Try.prog 7 3 = some (3, 6) := by kernel_rfl
theorem t7_pl : placesT Go.Proofs.Try.prog 7 = some [(0, 1), (1, 1), (2, 1), (3, 1)] := by kernel_rfl
theorem t8_sz : sizeT Go.Proofs.Try.prog 8 = some 4 := by kernel_rfl
theorem t8_z : zav Go.Proofs.Try.prog 8 = some [.int .i64 0, .int .i64 0, .bool false, .int .u8 0] := by kernel_rfl
theorem t8_zv : zval Go.Proofs.Try.prog 8 = some (.agg [.int .i64 0, .int .i64 0, .bool false, .int .u8 0]) := by kernel_rfl
theorem t8_f0 : fieldT Go.Proofs.Try.prog 8 0 = some (0, 2) := by kernel_rfl
theorem t8_f1 : fieldT Go.Proofs.Try.prog 8 1 = some (1, 3) := by kernel_rfl
theorem t8_f2 : fieldT Go.Proofs.Try.prog 8 2 = some (2, 4) := by kernel_rfl
theorem t8_f3 : fieldT Go.Proofs.Try.prog 8 3 = some (3, 6) := by kernel_rfl
theorem t8_pl : placesT Go.Proofs.Try.prog 8 = some [(0, 1), (1, 1), (2, 1), (3, 1)] := by kernel_rfl
theorem t9_sz : sizeT Go.Proofs.Try.prog 9 = some 1 := by kernel_rfl
theorem t9_by : bytesT Go.Proofs.Try.prog 9 = some 16 := by kernel_rfl
theorem t9_z : zav Go.Proofs.Try.prog 9 = some [.str ⟨#[]⟩] := by kernel_rfl
theorem t9_d : dflt Go.Proofs.Try.prog 9 = .str ⟨#[]⟩ := by kernel_rfl
theorem t9_zv : zval Go.Proofs.Try.prog 9 = some (.str ⟨#[]⟩) := by kernel_rfl
theorem t10_sz : sizeT Go.Proofs.Try.prog 10 = some 1 := by kernel_rfl
theorem t10_by : bytesT Go.Proofs.Try.prog 10 = some 16 := by kernel_rfl
theorem t10_z : zav Go.Proofs.Try.prog 10 = some [.str ⟨#[]⟩] := by kernel_rfl
theorem t10_d : dflt Go.Proofs.Try.prog 10 = .str ⟨#[]⟩ := by kernel_rfl
theorem t10_zv : zval Go.Proofs.Try.prog 10 = some (.str ⟨#[]⟩) := by kernel_rfl
theorem t11_sz : sizeT Go.Proofs.Try.prog 11 = some 1 := by kernel_rfl
theorem t11_by : bytesT Go.Proofs.Try.prog 11 = some 16 := by kernel_rfl
theorem t11_z : zav Go.Proofs.Try.prog 11 = some [.str ⟨#[]⟩] := by kernel_rfl
theorem t11_d : dflt Go.Proofs.Try.prog 11 = .str ⟨#[]⟩ := by kernel_rfl
theorem t11_zv : zval Go.Proofs.Try.prog 11 = some (.str ⟨#[]⟩) := by kernel_rfl
theorem t12_sz : sizeT Go.Proofs.Try.prog 12 = some 1 := by kernel_rfl
theorem t12_by : bytesT Go.Proofs.Try.prog 12 = some 8 := by kernel_rfl
theorem t12_z : zav Go.Proofs.Try.prog 12 = some [.int .u64 0] := by kernel_rfl
theorem t12_d : dflt Go.Proofs.Try.prog 12 = .int .u64 0 := by kernel_rfl
theorem t12_zv : zval Go.Proofs.Try.prog 12 = some (.int .u64 0) := by kernel_rfl
theorem t13_sz : sizeT Go.Proofs.Try.prog 13 = some 2 := by kernel_rfl
theorem t13_z : zav Go.Proofs.Try.prog 13 = some [.str ⟨#[]⟩, .int .u64 0] := by kernel_rfl
theorem t13_zv : zval Go.Proofs.Try.prog 13 = some (.agg [.str ⟨#[]⟩, .int .u64 0]) := by kernel_rfl
theorem t13_f0 : fieldT Go.Proofs.Try.prog 13 0 = some (0, 9) := by kernel_rfl
theorem t13_f1 : fieldT Go.Proofs.Try.prog 13 1 = some (1, 12) := by kernel_rfl
theorem t13_pl : placesT Go.Proofs.Try.prog 13 = some [(0, 1), (1, 1)] := by kernel_rfl
theorem t14_sz : sizeT Go.Proofs.Try.prog 14 = some 2 := by kernel_rfl
theorem t14_z : zav Go.Proofs.Try.prog 14 = some [.str ⟨#[]⟩, .int .u64 0] := by kernel_rfl
theorem t14_zv : zval Go.Proofs.Try.prog 14 = some (.agg [.str ⟨#[]⟩, .int .u64 0]) := by kernel_rfl
theorem t14_f0 : fieldT Go.Proofs.Try.prog 14 0 = some (0, 9) := by kernel_rfl
theorem t14_f1 : fieldT Go.Proofs.Try.prog 14 1 = some (1, 12) := by kernel_rfl
theorem t14_pl : placesT Go.Proofs.Try.prog 14 = some [(0, 1), (1, 1)] := by kernel_rfl
theorem t15_sz : sizeT Go.Proofs.Try.prog 15 = some 1 := by kernel_rfl
theorem t15_by : bytesT Go.Proofs.Try.prog 15 = some 8 := by kernel_rfl
theorem t15_z : zav Go.Proofs.Try.prog 15 = some [.nilp] := by kernel_rfl
theorem t15_d : dflt Go.Proofs.Try.prog 15 = .nilp := by kernel_rfl
theorem t15_zv : zval Go.Proofs.Try.prog 15 = some (.nilp) := by kernel_rfl
theorem t16_sz : sizeT Go.Proofs.Try.prog 16 = some 1 := by kernel_rfl
theorem t16_by : bytesT Go.Proofs.Try.prog 16 = some 8 := by kernel_rfl
theorem t16_z : zav Go.Proofs.Try.prog 16 = some [.nilp] := by kernel_rfl
theorem t16_d : dflt Go.Proofs.Try.prog 16 = .nilp := by kernel_rfl
theorem t16_zv : zval Go.Proofs.Try.prog 16 = some (.nilp) := by kernel_rfl
theorem t17_sz : sizeT Go.Proofs.Try.prog 17 = some 1 := by kernel_rfl
theorem t17_by : bytesT Go.Proofs.Try.prog 17 = some 8 := by kernel_rfl
theorem t17_z : zav Go.Proofs.Try.prog 17 = some [.nilp] := by kernel_rfl
theorem t17_d : dflt Go.Proofs.Try.prog 17 = .nilp := by kernel_rfl
theorem t17_zv : zval Go.Proofs.Try.prog 17 = some (.nilp) := by kernel_rfl
theorem t20_sz : sizeT Go.Proofs.Try.prog 20 = some 1 := by kernel_rfl
theorem t20_by : bytesT Go.Proofs.Try.prog 20 = some 16 := by kernel_rfl
theorem t20_z : zav Go.Proofs.Try.prog 20 = some [.nili] := by kernel_rfl
theorem t20_d : dflt Go.Proofs.Try.prog 20 = .nili := by kernel_rfl
theorem t20_zv : zval Go.Proofs.Try.prog 20 = some (.nili) := by kernel_rfl
theorem t21_sz : sizeT Go.Proofs.Try.prog 21 = some 1 := by kernel_rfl
theorem t21_by : bytesT Go.Proofs.Try.prog 21 = some 4 := by kernel_rfl
theorem t21_z : zav Go.Proofs.Try.prog 21 = some [.int .i32 0] := by kernel_rfl
theorem t21_d : dflt Go.Proofs.Try.prog 21 = .int .i32 0 := by kernel_rfl
theorem t21_zv : zval Go.Proofs.Try.prog 21 = some (.int .i32 0) := by kernel_rfl
theorem t22_sz : sizeT Go.Proofs.Try.prog 22 = some 1 := by kernel_rfl
theorem t22_by : bytesT Go.Proofs.Try.prog 22 = some 24 := by kernel_rfl
theorem t22_z : zav Go.Proofs.Try.prog 22 = some [.nils] := by kernel_rfl
theorem t22_d : dflt Go.Proofs.Try.prog 22 = .nils := by kernel_rfl
theorem t22_zv : zval Go.Proofs.Try.prog 22 = some (.nils) := by kernel_rfl
theorem t23_sz : sizeT Go.Proofs.Try.prog 23 = some 1 := by kernel_rfl
theorem t23_by : bytesT Go.Proofs.Try.prog 23 = some 8 := by kernel_rfl
theorem t23_z : zav Go.Proofs.Try.prog 23 = some [.nilf] := by kernel_rfl
theorem t23_d : dflt Go.Proofs.Try.prog 23 = .nilf := by kernel_rfl
theorem t23_zv : zval Go.Proofs.Try.prog 23 = some (.nilf) := by kernel_rfl
theorem t25_sz : sizeT Go.Proofs.Try.prog 25 = some 1 := by kernel_rfl
theorem t25_by : bytesT Go.Proofs.Try.prog 25 = some 8 := by kernel_rfl
theorem t25_z : zav Go.Proofs.Try.prog 25 = some [.int .i64 0] := by kernel_rfl
theorem t25_d : dflt Go.Proofs.Try.prog 25 = .int .i64 0 := by kernel_rfl
theorem t25_zv : zval Go.Proofs.Try.prog 25 = some (.int .i64 0) := by kernel_rfl
theorem t42_sz : sizeT Go.Proofs.Try.prog 42 = some 1 := by kernel_rfl
theorem t42_by : bytesT Go.Proofs.Try.prog 42 = some 8 := by kernel_rfl
theorem t42_z : zav Go.Proofs.Try.prog 42 = some [.nilf] := by kernel_rfl
theorem t42_d : dflt Go.Proofs.Try.prog 42 = .nilf := by kernel_rfl
theorem t42_zv : zval Go.Proofs.Try.prog 42 = some (.nilf) := by kernel_rfl
theorem t44_sz : sizeT Go.Proofs.Try.prog 44 = some 1 := by kernel_rfl
theorem t44_by : bytesT Go.Proofs.Try.prog 44 = some 24 := by kernel_rfl
theorem t44_z : zav Go.Proofs.Try.prog 44 = some [.nils] := by kernel_rfl
theorem t44_d : dflt Go.Proofs.Try.prog 44 = .nils := by kernel_rfl
theorem t44_zv : zval Go.Proofs.Try.prog 44 = some (.nils) := by kernel_rfl
theorem t46_sz : sizeT Go.Proofs.Try.prog 46 = some 1 := by kernel_rfl
theorem t46_by : bytesT Go.Proofs.Try.prog 46 = some 24 := by kernel_rfl
theorem t46_z : zav Go.Proofs.Try.prog 46 = some [.nils] := by kernel_rfl
theorem t46_d : dflt Go.Proofs.Try.prog 46 = .nils := by kernel_rfl
theorem t46_zv : zval Go.Proofs.Try.prog 46 = some (.nils) := by kernel_rfl
theorem t49_sz : sizeT Go.Proofs.Try.prog 49 = some 2 := by kernel_rfl
theorem t49_z : zav Go.Proofs.Try.prog 49 = some [.int .i64 0, .int .i64 0] := by kernel_rfl
theorem t49_zv : zval Go.Proofs.Try.prog 49 = some (.agg [.int .i64 0, .int .i64 0]) := by kernel_rfl
theorem t49_f0 : fieldT Go.Proofs.Try.prog 49 0 = some (0, 2) := by kernel_rfl
theorem t49_f1 : fieldT Go.Proofs.Try.prog 49 1 = some (1, 2) := by kernel_rfl
theorem t49_pl : placesT Go.Proofs.Try.prog 49 = some [(0, 1), (1, 1)] := by kernel_rfl
theorem t50_sz : sizeT Go.Proofs.Try.prog 50 = some 2 := by kernel_rfl
theorem t50_z : zav Go.Proofs.Try.prog 50 = some [.int .i64 0, .int .i64 0] := by kernel_rfl
theorem t50_zv : zval Go.Proofs.Try.prog 50 = some (.agg [.int .i64 0, .int .i64 0]) := by kernel_rfl
theorem t50_f0 : fieldT Go.Proofs.Try.prog 50 0 = some (0, 2) := by kernel_rfl
theorem t50_f1 : fieldT Go.Proofs.Try.prog 50 1 = some (1, 2) := by kernel_rfl
theorem t50_pl : placesT Go.Proofs.Try.prog 50 = some [(0, 1), (1, 1)] := by kernel_rfl
theorem t58_sz : sizeT Go.Proofs.Try.prog 58 = some 1 := by kernel_rfl
theorem t58_by : bytesT Go.Proofs.Try.prog 58 = some 24 := by kernel_rfl
theorem t58_z : zav Go.Proofs.Try.prog 58 = some [.nils] := by kernel_rfl
theorem t58_d : dflt Go.Proofs.Try.prog 58 = .nils := by kernel_rfl
theorem t58_zv : zval Go.Proofs.Try.prog 58 = some (.nils) := by kernel_rfl
theorem t59_sz : sizeT Go.Proofs.Try.prog 59 = some 1 := by kernel_rfl
theorem t59_by : bytesT Go.Proofs.Try.prog 59 = some 8 := by kernel_rfl
theorem t59_z : zav Go.Proofs.Try.prog 59 = some [.nilp] := by kernel_rfl
theorem t59_d : dflt Go.Proofs.Try.prog 59 = .nilp := by kernel_rfl
theorem t59_zv : zval Go.Proofs.Try.prog 59 = some (.nilp) := by kernel_rfl
theorem t63_sz : sizeT Go.Proofs.Try.prog 63 = some 1 := by kernel_rfl
theorem t63_by : bytesT Go.Proofs.Try.prog 63 = some 8 := by kernel_rfl
theorem t63_z : zav Go.Proofs.Try.prog 63 = some [.nilp] := by kernel_rfl
theorem t63_d : dflt Go.Proofs.Try.prog 63 = .nilp := by kernel_rfl
theorem t63_zv : zval Go.Proofs.Try.prog 63 = some (.nilp) := by kernel_rfl
theorem t65_sz : sizeT Go.Proofs.Try.prog 65 = some 1 := by kernel_rfl
theorem t65_by : bytesT Go.Proofs.Try.prog 65 = some 8 := by kernel_rfl
theorem t65_z : zav Go.Proofs.Try.prog 65 = some [.nilp] := by kernel_rfl
theorem t65_d : dflt Go.Proofs.Try.prog 65 = .nilp := by kernel_rfl
theorem t65_zv : zval Go.Proofs.Try.prog 65 = some (.nilp) := by kernel_rfl
theorem t67_sz : sizeT Go.Proofs.Try.prog 67 = some 1 := by kernel_rfl
theorem t67_by : bytesT Go.Proofs.Try.prog 67 = some 8 := by kernel_rfl
theorem t67_z : zav Go.Proofs.Try.prog 67 = some [.nilp] := by kernel_rfl
theorem t67_d : dflt Go.Proofs.Try.prog 67 = .nilp := by kernel_rfl
theorem t67_zv : zval Go.Proofs.Try.prog 67 = some (.nilp) := by kernel_rfl
theorem t70_sz : sizeT Go.Proofs.Try.prog 70 = some 5 := by kernel_rfl
theorem t70_z : zav Go.Proofs.Try.prog 70 = some [.int .i64 0, .int .u8 0, .int .i64 0, .int .i64 0, .int .i64 0] := by kernel_rfl
theorem t70_zv : zval Go.Proofs.Try.prog 70 = some (.agg [.int .i64 0, .int .u8 0, .int .i64 0, .int .i64 0, .int .i64 0]) := by kernel_rfl
theorem t70_f0 : fieldT Go.Proofs.Try.prog 70 0 = some (0, 3) := by kernel_rfl
theorem t70_f1 : fieldT Go.Proofs.Try.prog 70 1 = some (1, 5) := by kernel_rfl
theorem t70_f2 : fieldT Go.Proofs.Try.prog 70 2 = some (2, 3) := by kernel_rfl
theorem t70_f3 : fieldT Go.Proofs.Try.prog 70 3 = some (3, 3) := by kernel_rfl
theorem t70_f4 : fieldT Go.Proofs.Try.prog 70 4 = some (4, 3) := by kernel_rfl
theorem t70_pl : placesT Go.Proofs.Try.prog 70 = some [(0, 1), (1, 1), (2, 1), (3, 1), (4, 1)] := by kernel_rfl
theorem t71_sz : sizeT Go.Proofs.Try.prog 71 = some 5 := by kernel_rfl
theorem t71_z : zav Go.Proofs.Try.prog 71 = some [.int .i64 0, .int .u8 0, .int .i64 0, .int .i64 0, .int .i64 0] := by kernel_rfl
theorem t71_zv : zval Go.Proofs.Try.prog 71 = some (.agg [.int .i64 0, .int .u8 0, .int .i64 0, .int .i64 0, .int .i64 0]) := by kernel_rfl
theorem t71_f0 : fieldT Go.Proofs.Try.prog 71 0 = some (0, 3) := by kernel_rfl
theorem t71_f1 : fieldT Go.Proofs.Try.prog 71 1 = some (1, 5) := by kernel_rfl
theorem t71_f2 : fieldT Go.Proofs.Try.prog 71 2 = some (2, 3) := by kernel_rfl
theorem t71_f3 : fieldT Go.Proofs.Try.prog 71 3 = some (3, 3) := by kernel_rfl
theorem t71_f4 : fieldT Go.Proofs.Try.prog 71 4 = some (4, 3) := by kernel_rfl
theorem t71_pl : placesT Go.Proofs.Try.prog 71 = some [(0, 1), (1, 1), (2, 1), (3, 1), (4, 1)] := by kernel_rfl
theorem t77_sz : sizeT Go.Proofs.Try.prog 77 = some 1 := by kernel_rfl
theorem t77_by : bytesT Go.Proofs.Try.prog 77 = some 24 := by kernel_rfl
theorem t77_z : zav Go.Proofs.Try.prog 77 = some [.nils] := by kernel_rfl
theorem t77_d : dflt Go.Proofs.Try.prog 77 = .nils := by kernel_rfl
theorem t77_zv : zval Go.Proofs.Try.prog 77 = some (.nils) := by kernel_rfl
theorem t78_sz : sizeT Go.Proofs.Try.prog 78 = some 1 := by kernel_rfl
theorem t78_by : bytesT Go.Proofs.Try.prog 78 = some 24 := by kernel_rfl
theorem t78_z : zav Go.Proofs.Try.prog 78 = some [.nils] := by kernel_rfl
theorem t78_d : dflt Go.Proofs.Try.prog 78 = .nils := by kernel_rfl
theorem t78_zv : zval Go.Proofs.Try.prog 78 = some (.nils) := by kernel_rfl
theorem t79_sz : sizeT Go.Proofs.Try.prog 79 = some 6 := by kernel_rfl
theorem t79_z : zav Go.Proofs.Try.prog 79 = some [.int .i64 0, .int .i64 0, .int .i64 0, .int .i64 0, .nils, .nils] := by kernel_rfl
theorem t79_zv : zval Go.Proofs.Try.prog 79 = some (.agg [.int .i64 0, .int .i64 0, .int .i64 0, .int .i64 0, .nils, .nils]) := by kernel_rfl
theorem t79_f0 : fieldT Go.Proofs.Try.prog 79 0 = some (0, 3) := by kernel_rfl
theorem t79_f1 : fieldT Go.Proofs.Try.prog 79 1 = some (1, 3) := by kernel_rfl
theorem t79_f2 : fieldT Go.Proofs.Try.prog 79 2 = some (2, 3) := by kernel_rfl
theorem t79_f3 : fieldT Go.Proofs.Try.prog 79 3 = some (3, 3) := by kernel_rfl
theorem t79_f4 : fieldT Go.Proofs.Try.prog 79 4 = some (4, 77) := by kernel_rfl
theorem t79_f5 : fieldT Go.Proofs.Try.prog 79 5 = some (5, 78) := by kernel_rfl
theorem t79_pl : placesT Go.Proofs.Try.prog 79 = some [(0, 1), (1, 1), (2, 1), (3, 1), (4, 1), (5, 1)] := by kernel_rfl
theorem t80_sz : sizeT Go.Proofs.Try.prog 80 = some 6 := by kernel_rfl
theorem t80_z : zav Go.Proofs.Try.prog 80 = some [.int .i64 0, .int .i64 0, .int .i64 0, .int .i64 0, .nils, .nils] := by kernel_rfl
theorem t80_zv : zval Go.Proofs.Try.prog 80 = some (.agg [.int .i64 0, .int .i64 0, .int .i64 0, .int .i64 0, .nils, .nils]) := by kernel_rfl
theorem t80_f0 : fieldT Go.Proofs.Try.prog 80 0 = some (0, 3) := by kernel_rfl
theorem t80_f1 : fieldT Go.Proofs.Try.prog 80 1 = some (1, 3) := by kernel_rfl
theorem t80_f2 : fieldT Go.Proofs.Try.prog 80 2 = some (2, 3) := by kernel_rfl
theorem t80_f3 : fieldT Go.Proofs.Try.prog 80 3 = some (3, 3) := by kernel_rfl
theorem t80_f4 : fieldT Go.Proofs.Try.prog 80 4 = some (4, 77) := by kernel_rfl
theorem t80_f5 : fieldT Go.Proofs.Try.prog 80 5 = some (5, 78) := by kernel_rfl
theorem t80_pl : placesT Go.Proofs.Try.prog 80 = some [(0, 1), (1, 1), (2, 1), (3, 1), (4, 1), (5, 1)] := by kernel_rfl
theorem t82_sz : sizeT Go.Proofs.Try.prog 82 = some 4 := by kernel_rfl
theorem t82_by : bytesT Go.Proofs.Try.prog 82 = some 32 := by kernel_rfl
theorem t82_z : zav Go.Proofs.Try.prog 82 = some (List.replicate 4 (.int .i64 0)) := by kernel_rfl
theorem t82_zv : zval Go.Proofs.Try.prog 82 = some (.agg (List.replicate 4 (.int .i64 0))) := by kernel_rfl
theorem t85_sz : sizeT Go.Proofs.Try.prog 85 = some 1 := by kernel_rfl
theorem t85_by : bytesT Go.Proofs.Try.prog 85 = some 8 := by kernel_rfl
theorem t85_z : zav Go.Proofs.Try.prog 85 = some [.nilf] := by kernel_rfl
theorem t85_d : dflt Go.Proofs.Try.prog 85 = .nilf := by kernel_rfl
theorem t85_zv : zval Go.Proofs.Try.prog 85 = some (.nilf) := by kernel_rfl
theorem t88_sz : sizeT Go.Proofs.Try.prog 88 = some 1 := by kernel_rfl
theorem t88_by : bytesT Go.Proofs.Try.prog 88 = some 8 := by kernel_rfl
theorem t88_z : zav Go.Proofs.Try.prog 88 = some [.nilp] := by kernel_rfl
theorem t88_d : dflt Go.Proofs.Try.prog 88 = .nilp := by kernel_rfl
theorem t88_zv : zval Go.Proofs.Try.prog 88 = some (.nilp) := by kernel_rfl
theorem t93_sz : sizeT Go.Proofs.Try.prog 93 = some 1 := by kernel_rfl
theorem t93_by : bytesT Go.Proofs.Try.prog 93 = some 8 := by kernel_rfl
theorem t93_z : zav Go.Proofs.Try.prog 93 = some [.nilp] := by kernel_rfl
theorem t93_d : dflt Go.Proofs.Try.prog 93 = .nilp := by kernel_rfl
theorem t93_zv : zval Go.Proofs.Try.prog 93 = some (.nilp) := by kernel_rfl
theorem t96_sz : sizeT Go.Proofs.Try.prog 96 = some 1 := by kernel_rfl
theorem t96_by : bytesT Go.Proofs.Try.prog 96 = some 8 := by kernel_rfl
theorem t96_z : zav Go.Proofs.Try.prog 96 = some [.nilp] := by kernel_rfl
theorem t96_d : dflt Go.Proofs.Try.prog 96 = .nilp := by kernel_rfl
theorem t96_zv : zval Go.Proofs.Try.prog 96 = some (.nilp) := by kernel_rfl
theorem t97_sz : sizeT Go.Proofs.Try.prog 97 = some 2 := by kernel_rfl
theorem t97_z : zav Go.Proofs.Try.prog 97 = some [.nilp, .nilp] := by kernel_rfl
theorem t97_zv : zval Go.Proofs.Try.prog 97 = some (.agg [.nilp, .nilp]) := by kernel_rfl
theorem t97_f0 : fieldT Go.Proofs.Try.prog 97 0 = some (0, 93) := by kernel_rfl
theorem t97_f1 : fieldT Go.Proofs.Try.prog 97 1 = some (1, 65) := by kernel_rfl
theorem t97_pl : placesT Go.Proofs.Try.prog 97 = some [(0, 1), (1, 1)] := by kernel_rfl
theorem t98_sz : sizeT Go.Proofs.Try.prog 98 = some 2 := by kernel_rfl
theorem t98_z : zav Go.Proofs.Try.prog 98 = some [.nilp, .nilp] := by kernel_rfl
theorem t98_zv : zval Go.Proofs.Try.prog 98 = some (.agg [.nilp, .nilp]) := by kernel_rfl
theorem t98_f0 : fieldT Go.Proofs.Try.prog 98 0 = some (0, 93) := by kernel_rfl
theorem t98_f1 : fieldT Go.Proofs.Try.prog 98 1 = some (1, 65) := by kernel_rfl
theorem t98_pl : placesT Go.Proofs.Try.prog 98 = some [(0, 1), (1, 1)] := by kernel_rfl
theorem t107_sz : sizeT Go.Proofs.Try.prog 107 = some 1 := by kernel_rfl
theorem t107_by : bytesT Go.Proofs.Try.prog 107 = some 24 := by kernel_rfl
theorem t107_z : zav Go.Proofs.Try.prog 107 = some [.nils] := by kernel_rfl
theorem t107_d : dflt Go.Proofs.Try.prog 107 = .nils := by kernel_rfl
theorem t107_zv : zval Go.Proofs.Try.prog 107 = some (.nils) := by kernel_rfl
theorem t108_sz : sizeT Go.Proofs.Try.prog 108 = some 1 := by kernel_rfl
theorem t108_by : bytesT Go.Proofs.Try.prog 108 = some 4 := by kernel_rfl
theorem t108_z : zav Go.Proofs.Try.prog 108 = some [.int .u32 0] := by kernel_rfl
theorem t108_d : dflt Go.Proofs.Try.prog 108 = .int .u32 0 := by kernel_rfl
theorem t108_zv : zval Go.Proofs.Try.prog 108 = some (.int .u32 0) := by kernel_rfl
theorem t109_sz : sizeT Go.Proofs.Try.prog 109 = some 9 := by kernel_rfl
theorem t109_z : zav Go.Proofs.Try.prog 109 = some [.int .i64 0, .int .i64 0, .int .i64 0, .int .i64 0, .int .i64 0, .int .i64 0, .int .i64 0, .nils, .int .u32 0] := by kernel_rfl
theorem t109_zv : zval Go.Proofs.Try.prog 109 = some (.agg [.int .i64 0, .int .i64 0, .int .i64 0, .int .i64 0, .int .i64 0, .int .i64 0, .int .i64 0, .nils, .int .u32 0]) := by kernel_rfl
theorem t109_f0 : fieldT Go.Proofs.Try.prog 109 0 = some (0, 3) := by kernel_rfl
theorem t109_f1 : fieldT Go.Proofs.Try.prog 109 1 = some (1, 3) := by kernel_rfl
theorem t109_f2 : fieldT Go.Proofs.Try.prog 109 2 = some (2, 3) := by kernel_rfl
theorem t109_f3 : fieldT Go.Proofs.Try.prog 109 3 = some (3, 3) := by kernel_rfl
theorem t109_f4 : fieldT Go.Proofs.Try.prog 109 4 = some (4, 3) := by kernel_rfl
theorem t109_f5 : fieldT Go.Proofs.Try.prog 109 5 = some (5, 3) := by kernel_rfl
theorem t109_f6 : fieldT Go.Proofs.Try.prog 109 6 = some (6, 3) := by kernel_rfl
theorem t109_f7 : fieldT Go.Proofs.Try.prog 109 7 = some (7, 107) := by kernel_rfl
theorem t109_f8 : fieldT Go.Proofs.Try.prog 109 8 = some (8, 108) := by kernel_rfl
theorem t109_pl : placesT Go.Proofs.Try.prog 109 = some [(0, 1), (1, 1), (2, 1), (3, 1), (4, 1), (5, 1), (6, 1), (7, 1), (8, 1)] := by kernel_rfl
theorem t110_sz : sizeT Go.Proofs.Try.prog 110 = some 9 := by kernel_rfl
theorem t110_z : zav Go.Proofs.Try.prog 110 = some [.int .i64 0, .int .i64 0, .int .i64 0, .int .i64 0, .int .i64 0, .int .i64 0, .int .i64 0, .nils, .int .u32 0] := by kernel_rfl
theorem t110_zv : zval Go.Proofs.Try.prog 110 = some (.agg [.int .i64 0, .int .i64 0, .int .i64 0, .int .i64 0, .int .i64 0, .int .i64 0, .int .i64 0, .nils, .int .u32 0]) := by kernel_rfl
theorem t110_f0 : fieldT Go.Proofs.Try.prog 110 0 = some (0, 3) := by kernel_rfl
theorem t110_f1 : fieldT Go.Proofs.Try.prog 110 1 = some (1, 3) := by kernel_rfl
theorem t110_f2 : fieldT Go.Proofs.Try.prog 110 2 = some (2, 3) := by kernel_rfl
theorem t110_f3 : fieldT Go.Proofs.Try.prog 110 3 = some (3, 3) := by kernel_rfl
theorem t110_f4 : fieldT Go.Proofs.Try.prog 110 4 = some (4, 3) := by kernel_rfl
theorem t110_f5 : fieldT Go.Proofs.Try.prog 110 5 = some (5, 3) := by kernel_rfl
theorem t110_f6 : fieldT Go.Proofs.Try.prog 110 6 = some (6, 3) := by kernel_rfl
theorem t110_f7 : fieldT Go.Proofs.Try.prog 110 7 = some (7, 107) := by kernel_rfl
theorem t110_f8 : fieldT Go.Proofs.Try.prog 110 8 = some (8, 108) := by kernel_rfl
theorem t110_pl : placesT Go.Proofs.Try.prog 110 = some [(0, 1), (1, 1), (2, 1), (3, 1), (4, 1), (5, 1), (6, 1), (7, 1), (8, 1)] := by kernel_rfl
theorem t116_sz : sizeT Go.Proofs.Try.prog 116 = some 1 := by kernel_rfl
theorem t116_by : bytesT Go.Proofs.Try.prog 116 = some 8 := by kernel_rfl
theorem t116_z : zav Go.Proofs.Try.prog 116 = some [.int .u64 0] := by kernel_rfl
theorem t116_d : dflt Go.Proofs.Try.prog 116 = .int .u64 0 := by kernel_rfl
theorem t116_zv : zval Go.Proofs.Try.prog 116 = some (.int .u64 0) := by kernel_rfl
theorem t117_sz : sizeT Go.Proofs.Try.prog 117 = some 1 := by kernel_rfl
theorem t117_by : bytesT Go.Proofs.Try.prog 117 = some 8 := by kernel_rfl
theorem t117_z : zav Go.Proofs.Try.prog 117 = some [.nilf] := by kernel_rfl
theorem t117_d : dflt Go.Proofs.Try.prog 117 = .nilf := by kernel_rfl
theorem t117_zv : zval Go.Proofs.Try.prog 117 = some (.nilf) := by kernel_rfl
theorem t118_sz : sizeT Go.Proofs.Try.prog 118 = some 1 := by kernel_rfl
theorem t118_by : bytesT Go.Proofs.Try.prog 118 = some 8 := by kernel_rfl
theorem t118_z : zav Go.Proofs.Try.prog 118 = some [.nilm] := by kernel_rfl
theorem t118_d : dflt Go.Proofs.Try.prog 118 = .nilm := by kernel_rfl
theorem t118_zv : zval Go.Proofs.Try.prog 118 = some (.nilm) := by kernel_rfl
theorem t123_sz : sizeT Go.Proofs.Try.prog 123 = some 1 := by kernel_rfl
theorem t123_by : bytesT Go.Proofs.Try.prog 123 = some 8 := by kernel_rfl
theorem t123_z : zav Go.Proofs.Try.prog 123 = some [.int .u64 0] := by kernel_rfl
theorem t123_d : dflt Go.Proofs.Try.prog 123 = .int .u64 0 := by kernel_rfl
theorem t123_zv : zval Go.Proofs.Try.prog 123 = some (.int .u64 0) := by kernel_rfl
theorem t125_sz : sizeT Go.Proofs.Try.prog 125 = some 1 := by kernel_rfl
theorem t125_by : bytesT Go.Proofs.Try.prog 125 = some 8 := by kernel_rfl
theorem t125_z : zav Go.Proofs.Try.prog 125 = some [.nilf] := by kernel_rfl
theorem t125_d : dflt Go.Proofs.Try.prog 125 = .nilf := by kernel_rfl
theorem t125_zv : zval Go.Proofs.Try.prog 125 = some (.nilf) := by kernel_rfl
theorem t126_sz : sizeT Go.Proofs.Try.prog 126 = some 2 := by kernel_rfl
theorem t126_z : zav Go.Proofs.Try.prog 126 = some [.int .i64 0, .int .i64 0] := by kernel_rfl
theorem t126_zv : zval Go.Proofs.Try.prog 126 = some (.agg [.int .i64 0, .int .i64 0]) := by kernel_rfl
theorem t126_f0 : fieldT Go.Proofs.Try.prog 126 0 = some (0, 2) := by kernel_rfl
theorem t126_f1 : fieldT Go.Proofs.Try.prog 126 1 = some (1, 2) := by kernel_rfl
theorem t126_pl : placesT Go.Proofs.Try.prog 126 = some [(0, 1), (1, 1)] := by kernel_rfl
theorem t127_sz : sizeT Go.Proofs.Try.prog 127 = some 1 := by kernel_rfl
theorem t127_by : bytesT Go.Proofs.Try.prog 127 = some 8 := by kernel_rfl
theorem t127_z : zav Go.Proofs.Try.prog 127 = some [.nilp] := by kernel_rfl
theorem t127_d : dflt Go.Proofs.Try.prog 127 = .nilp := by kernel_rfl
theorem t127_zv : zval Go.Proofs.Try.prog 127 = some (.nilp) := by kernel_rfl
theorem t128_sz : sizeT Go.Proofs.Try.prog 128 = some 3 := by kernel_rfl
theorem t128_z : zav Go.Proofs.Try.prog 128 = some [.nils, .int .i64 0, .int .i64 0] := by kernel_rfl
theorem t128_zv : zval Go.Proofs.Try.prog 128 = some (.agg [.nils, .int .i64 0, .int .i64 0]) := by kernel_rfl
theorem t128_f0 : fieldT Go.Proofs.Try.prog 128 0 = some (0, 22) := by kernel_rfl
theorem t128_f1 : fieldT Go.Proofs.Try.prog 128 1 = some (1, 3) := by kernel_rfl
theorem t128_f2 : fieldT Go.Proofs.Try.prog 128 2 = some (2, 25) := by kernel_rfl
theorem t128_pl : placesT Go.Proofs.Try.prog 128 = some [(0, 1), (1, 1), (2, 1)] := by kernel_rfl
theorem t129_sz : sizeT Go.Proofs.Try.prog 129 = some 3 := by kernel_rfl
theorem t129_z : zav Go.Proofs.Try.prog 129 = some [.nils, .int .i64 0, .int .i64 0] := by kernel_rfl
theorem t129_zv : zval Go.Proofs.Try.prog 129 = some (.agg [.nils, .int .i64 0, .int .i64 0]) := by kernel_rfl
theorem t129_f0 : fieldT Go.Proofs.Try.prog 129 0 = some (0, 22) := by kernel_rfl
theorem t129_f1 : fieldT Go.Proofs.Try.prog 129 1 = some (1, 3) := by kernel_rfl
theorem t129_f2 : fieldT Go.Proofs.Try.prog 129 2 = some (2, 25) := by kernel_rfl
theorem t129_pl : placesT Go.Proofs.Try.prog 129 = some [(0, 1), (1, 1), (2, 1)] := by kernel_rfl
theorem t135_sz : sizeT Go.Proofs.Try.prog 135 = some 1 := by kernel_rfl
theorem t135_by : bytesT Go.Proofs.Try.prog 135 = some 24 := by kernel_rfl
theorem t135_z : zav Go.Proofs.Try.prog 135 = some [.nils] := by kernel_rfl
theorem t135_d : dflt Go.Proofs.Try.prog 135 = .nils := by kernel_rfl
theorem t135_zv : zval Go.Proofs.Try.prog 135 = some (.nils) := by kernel_rfl
theorem t136_sz : sizeT Go.Proofs.Try.prog 136 = some 1 := by kernel_rfl
theorem t136_by : bytesT Go.Proofs.Try.prog 136 = some 2 := by kernel_rfl
theorem t136_z : zav Go.Proofs.Try.prog 136 = some [.int .u16 0] := by kernel_rfl
theorem t136_d : dflt Go.Proofs.Try.prog 136 = .int .u16 0 := by kernel_rfl
theorem t136_zv : zval Go.Proofs.Try.prog 136 = some (.int .u16 0) := by kernel_rfl
theorem t137_sz : sizeT Go.Proofs.Try.prog 137 = some 16 := by kernel_rfl
theorem t137_by : bytesT Go.Proofs.Try.prog 137 = some 32 := by kernel_rfl
theorem t137_z : zav Go.Proofs.Try.prog 137 = some (List.replicate 16 (.int .u16 0)) := by kernel_rfl
theorem t137_zv : zval Go.Proofs.Try.prog 137 = some (.agg (List.replicate 16 (.int .u16 0))) := by kernel_rfl
theorem t138_sz : sizeT Go.Proofs.Try.prog 138 = some 192 := by kernel_rfl
theorem t138_by : bytesT Go.Proofs.Try.prog 138 = some 384 := by kernel_rfl
theorem t138_z : zav Go.Proofs.Try.prog 138 = some ((List.replicate 12 (List.replicate 16 (.int .u16 0))).flatten) := by kernel_rfl
theorem t138_zv : zval Go.Proofs.Try.prog 138 = some (.agg ((List.replicate 12 (List.replicate 16 (.int .u16 0))).flatten)) := by kernel_rfl
theorem t139_sz : sizeT Go.Proofs.Try.prog 139 = some 12 := by kernel_rfl
theorem t139_by : bytesT Go.Proofs.Try.prog 139 = some 24 := by kernel_rfl
theorem t139_z : zav Go.Proofs.Try.prog 139 = some (List.replicate 12 (.int .u16 0)) := by kernel_rfl
theorem t139_zv : zval Go.Proofs.Try.prog 139 = some (.agg (List.replicate 12 (.int .u16 0))) := by kernel_rfl
theorem t140_sz : sizeT Go.Proofs.Try.prog 140 = some 1 := by kernel_rfl
theorem t140_by : bytesT Go.Proofs.Try.prog 140 = some 2 := by kernel_rfl
theorem t140_z : zav Go.Proofs.Try.prog 140 = some (List.replicate 1 (.int .u16 0)) := by kernel_rfl
theorem t140_zv : zval Go.Proofs.Try.prog 140 = some (.agg (List.replicate 1 (.int .u16 0))) := by kernel_rfl
theorem t141_sz : sizeT Go.Proofs.Try.prog 141 = some 8 := by kernel_rfl
theorem t141_by : bytesT Go.Proofs.Try.prog 141 = some 16 := by kernel_rfl
theorem t141_z : zav Go.Proofs.Try.prog 141 = some (List.replicate 8 (.int .u16 0)) := by kernel_rfl
theorem t141_zv : zval Go.Proofs.Try.prog 141 = some (.agg (List.replicate 8 (.int .u16 0))) := by kernel_rfl
theorem t142_sz : sizeT Go.Proofs.Try.prog 142 = some 128 := by kernel_rfl
theorem t142_by : bytesT Go.Proofs.Try.prog 142 = some 256 := by kernel_rfl
theorem t142_z : zav Go.Proofs.Try.prog 142 = some ((List.replicate 16 (List.replicate 8 (.int .u16 0))).flatten) := by kernel_rfl
theorem t142_zv : zval Go.Proofs.Try.prog 142 = some (.agg ((List.replicate 16 (List.replicate 8 (.int .u16 0))).flatten)) := by kernel_rfl
theorem t143_sz : sizeT Go.Proofs.Try.prog 143 = some 256 := by kernel_rfl
theorem t143_by : bytesT Go.Proofs.Try.prog 143 = some 512 := by kernel_rfl
theorem t143_z : zav Go.Proofs.Try.prog 143 = some (List.replicate 256 (.int .u16 0)) := by kernel_rfl
theorem t143_zv : zval Go.Proofs.Try.prog 143 = some (.agg (List.replicate 256 (.int .u16 0))) := by kernel_rfl
theorem t144_sz : sizeT Go.Proofs.Try.prog 144 = some 514 := by kernel_rfl
theorem t144_z : zav Go.Proofs.Try.prog 144 = some ((List.replicate 1 (.int .u16 0)) ++ (List.replicate 1 (.int .u16 0)) ++ ((List.replicate 16 (List.replicate 8 (.int .u16 0))).flatten) ++ ((List.replicate 16 (List.replicate 8 (.int .u16 0))).flatten) ++ (List.replicate 256 (.int .u16 0))) := by kernel_rfl
theorem t144_zv : zval Go.Proofs.Try.prog 144 = some (.agg ((List.replicate 1 (.int .u16 0)) ++ (List.replicate 1 (.int .u16 0)) ++ ((List.replicate 16 (List.replicate 8 (.int .u16 0))).flatten) ++ ((List.replicate 16 (List.replicate 8 (.int .u16 0))).flatten) ++ (List.replicate 256 (.int .u16 0)))) := by kernel_rfl
theorem t144_f0 : fieldT Go.Proofs.Try.prog 144 0 = some (0, 140) := by kernel_rfl
theorem t144_f1 : fieldT Go.Proofs.Try.prog 144 1 = some (1, 140) := by kernel_rfl
theorem t144_f2 : fieldT Go.Proofs.Try.prog 144 2 = some (2, 142) := by kernel_rfl
theorem t144_f3 : fieldT Go.Proofs.Try.prog 144 3 = some (130, 142) := by kernel_rfl
theorem t144_f4 : fieldT Go.Proofs.Try.prog 144 4 = some (258, 143) := by kernel_rfl
theorem t144_pl : placesT Go.Proofs.Try.prog 144 = some [(0, 1), (1, 1), (2, 128), (130, 128), (258, 256)] := by kernel_rfl
theorem t145_sz : sizeT Go.Proofs.Try.prog 145 = some 514 := by kernel_rfl
theorem t145_z : zav Go.Proofs.Try.prog 145 = some ((List.replicate 1 (.int .u16 0)) ++ (List.replicate 1 (.int .u16 0)) ++ ((List.replicate 16 (List.replicate 8 (.int .u16 0))).flatten) ++ ((List.replicate 16 (List.replicate 8 (.int .u16 0))).flatten) ++ (List.replicate 256 (.int .u16 0))) := by kernel_rfl
theorem t145_zv : zval Go.Proofs.Try.prog 145 = some (.agg ((List.replicate 1 (.int .u16 0)) ++ (List.replicate 1 (.int .u16 0)) ++ ((List.replicate 16 (List.replicate 8 (.int .u16 0))).flatten) ++ ((List.replicate 16 (List.replicate 8 (.int .u16 0))).flatten) ++ (List.replicate 256 (.int .u16 0)))) := by kernel_rfl
theorem t145_f0 : fieldT Go.Proofs.Try.prog 145 0 = some (0, 140) := by kernel_rfl
theorem t145_f1 : fieldT Go.Proofs.Try.prog 145 1 = some (1, 140) := by kernel_rfl
theorem t145_f2 : fieldT Go.Proofs.Try.prog 145 2 = some (2, 142) := by kernel_rfl
theorem t145_f3 : fieldT Go.Proofs.Try.prog 145 3 = some (130, 142) := by kernel_rfl
theorem t145_f4 : fieldT Go.Proofs.Try.prog 145 4 = some (258, 143) := by kernel_rfl
theorem t145_pl : placesT Go.Proofs.Try.prog 145 = some [(0, 1), (1, 1), (2, 128), (130, 128), (258, 256)] := by kernel_rfl
theorem t146_sz : sizeT Go.Proofs.Try.prog 146 = some 64 := by kernel_rfl
theorem t146_by : bytesT Go.Proofs.Try.prog 146 = some 128 := by kernel_rfl
theorem t146_z : zav Go.Proofs.Try.prog 146 = some (List.replicate 64 (.int .u16 0)) := by kernel_rfl
theorem t146_zv : zval Go.Proofs.Try.prog 146 = some (.agg (List.replicate 64 (.int .u16 0))) := by kernel_rfl
theorem t147_sz : sizeT Go.Proofs.Try.prog 147 = some 256 := by kernel_rfl
theorem t147_by : bytesT Go.Proofs.Try.prog 147 = some 512 := by kernel_rfl
theorem t147_z : zav Go.Proofs.Try.prog 147 = some ((List.replicate 4 (List.replicate 64 (.int .u16 0))).flatten) := by kernel_rfl
theorem t147_zv : zval Go.Proofs.Try.prog 147 = some (.agg ((List.replicate 4 (List.replicate 64 (.int .u16 0))).flatten)) := by kernel_rfl
theorem t148_sz : sizeT Go.Proofs.Try.prog 148 = some 32 := by kernel_rfl
theorem t148_by : bytesT Go.Proofs.Try.prog 148 = some 64 := by kernel_rfl
theorem t148_z : zav Go.Proofs.Try.prog 148 = some (List.replicate 32 (.int .u16 0)) := by kernel_rfl
theorem t148_zv : zval Go.Proofs.Try.prog 148 = some (.agg (List.replicate 32 (.int .u16 0))) := by kernel_rfl
theorem t149_sz : sizeT Go.Proofs.Try.prog 149 = some 448 := by kernel_rfl
theorem t149_by : bytesT Go.Proofs.Try.prog 149 = some 896 := by kernel_rfl
theorem t149_z : zav Go.Proofs.Try.prog 149 = some ((List.replicate 14 (List.replicate 32 (.int .u16 0))).flatten) := by kernel_rfl
theorem t149_zv : zval Go.Proofs.Try.prog 149 = some (.agg ((List.replicate 14 (List.replicate 32 (.int .u16 0))).flatten)) := by kernel_rfl
theorem t150_sz : sizeT Go.Proofs.Try.prog 150 = some 2189 := by kernel_rfl
theorem t150_z : zav Go.Proofs.Try.prog 150 = some ([.int .i64 0] ++ [.int .i64 0] ++ [.int .i64 0] ++ [.int .i64 0] ++ (List.replicate 4 (.int .i64 0)) ++ ((List.replicate 12 (List.replicate 16 (.int .u16 0))).flatten) ++ ((List.replicate 12 (List.replicate 16 (.int .u16 0))).flatten) ++ (List.replicate 12 (.int .u16 0)) ++ (List.replicate 12 (.int .u16 0)) ++ (List.replicate 12 (.int .u16 0)) ++ (List.replicate 12 (.int .u16 0)) ++ ((List.replicate 1 (.int .u16 0)) ++ (List.replicate 1 (.int .u16 0)) ++ ((List.replicate 16 (List.replicate 8 (.int .u16 0))).flatten) ++ ((List.replicate 16 (List.replicate 8 (.int .u16 0))).flatten) ++ (List.replicate 256 (.int .u16 0))) ++ ((List.replicate 1 (.int .u16 0)) ++ (List.replicate 1 (.int .u16 0)) ++ ((List.replicate 16 (List.replicate 8 (.int .u16 0))).flatten) ++ ((List.replicate 16 (List.replicate 8 (.int .u16 0))).flatten) ++ (List.replicate 256 (.int .u16 0))) ++ ((List.replicate 4 (List.replicate 64 (.int .u16 0))).flatten) ++ ((List.replicate 14 (List.replicate 32 (.int .u16 0))).flatten) ++ (List.replicate 16 (.int .u16 0)) ++ [.nils]) := by kernel_rfl
theorem t150_zv : zval Go.Proofs.Try.prog 150 = some (.agg ([.int .i64 0] ++ [.int .i64 0] ++ [.int .i64 0] ++ [.int .i64 0] ++ (List.replicate 4 (.int .i64 0)) ++ ((List.replicate 12 (List.replicate 16 (.int .u16 0))).flatten) ++ ((List.replicate 12 (List.replicate 16 (.int .u16 0))).flatten) ++ (List.replicate 12 (.int .u16 0)) ++ (List.replicate 12 (.int .u16 0)) ++ (List.replicate 12 (.int .u16 0)) ++ (List.replicate 12 (.int .u16 0)) ++ ((List.replicate 1 (.int .u16 0)) ++ (List.replicate 1 (.int .u16 0)) ++ ((List.replicate 16 (List.replicate 8 (.int .u16 0))).flatten) ++ ((List.replicate 16 (List.replicate 8 (.int .u16 0))).flatten) ++ (List.replicate 256 (.int .u16 0))) ++ ((List.replicate 1 (.int .u16 0)) ++ (List.replicate 1 (.int .u16 0)) ++ ((List.replicate 16 (List.replicate 8 (.int .u16 0))).flatten) ++ ((List.replicate 16 (List.replicate 8 (.int .u16 0))).flatten) ++ (List.replicate 256 (.int .u16 0))) ++ ((List.replicate 4 (List.replicate 64 (.int .u16 0))).flatten) ++ ((List.replicate 14 (List.replicate 32 (.int .u16 0))).flatten) ++ (List.replicate 16 (.int .u16 0)) ++ [.nils])) := by kernel_rfl
theorem t150_f0 : fieldT Go.Proofs.Try.prog 150 0 = some (0, 3) := by kernel_rfl
theorem t150_f1 : fieldT Go.Proofs.Try.prog 150 1 = some (1, 3) := by kernel_rfl
theorem t150_f2 : fieldT Go.Proofs.Try.prog 150 2 = some (2, 3) := by kernel_rfl
theorem t150_f3 : fieldT Go.Proofs.Try.prog 150 3 = some (3, 3) := by kernel_rfl
theorem t150_f4 : fieldT Go.Proofs.Try.prog 150 4 = some (4, 82) := by kernel_rfl
theorem t150_f5 : fieldT Go.Proofs.Try.prog 150 5 = some (8, 138) := by kernel_rfl
theorem t150_f6 : fieldT Go.Proofs.Try.prog 150 6 = some (200, 138) := by kernel_rfl
theorem t150_f7 : fieldT Go.Proofs.Try.prog 150 7 = some (392, 139) := by kernel_rfl
theorem t150_f8 : fieldT Go.Proofs.Try.prog 150 8 = some (404, 139) := by kernel_rfl
theorem t150_f9 : fieldT Go.Proofs.Try.prog 150 9 = some (416, 139) := by kernel_rfl
theorem t150_f10 : fieldT Go.Proofs.Try.prog 150 10 = some (428, 139) := by kernel_rfl
theorem t150_f11 : fieldT Go.Proofs.Try.prog 150 11 = some (440, 145) := by kernel_rfl
theorem t150_f12 : fieldT Go.Proofs.Try.prog 150 12 = some (954, 145) := by kernel_rfl
theorem t150_f13 : fieldT Go.Proofs.Try.prog 150 13 = some (1468, 147) := by kernel_rfl
theorem t150_f14 : fieldT Go.Proofs.Try.prog 150 14 = some (1724, 149) := by kernel_rfl
theorem t150_f15 : fieldT Go.Proofs.Try.prog 150 15 = some (2172, 137) := by kernel_rfl
theorem t150_f16 : fieldT Go.Proofs.Try.prog 150 16 = some (2188, 135) := by kernel_rfl
theorem t150_pl : placesT Go.Proofs.Try.prog 150 = some [(0, 1), (1, 1), (2, 1), (3, 1), (4, 4), (8, 192), (200, 192), (392, 12), (404, 12), (416, 12), (428, 12), (440, 514), (954, 514), (1468, 256), (1724, 448), (2172, 16), (2188, 1)] := by kernel_rfl
theorem t151_sz : sizeT Go.Proofs.Try.prog 151 = some 2189 := by kernel_rfl
theorem t151_z : zav Go.Proofs.Try.prog 151 = some ([.int .i64 0] ++ [.int .i64 0] ++ [.int .i64 0] ++ [.int .i64 0] ++ (List.replicate 4 (.int .i64 0)) ++ ((List.replicate 12 (List.replicate 16 (.int .u16 0))).flatten) ++ ((List.replicate 12 (List.replicate 16 (.int .u16 0))).flatten) ++ (List.replicate 12 (.int .u16 0)) ++ (List.replicate 12 (.int .u16 0)) ++ (List.replicate 12 (.int .u16 0)) ++ (List.replicate 12 (.int .u16 0)) ++ ((List.replicate 1 (.int .u16 0)) ++ (List.replicate 1 (.int .u16 0)) ++ ((List.replicate 16 (List.replicate 8 (.int .u16 0))).flatten) ++ ((List.replicate 16 (List.replicate 8 (.int .u16 0))).flatten) ++ (List.replicate 256 (.int .u16 0))) ++ ((List.replicate 1 (.int .u16 0)) ++ (List.replicate 1 (.int .u16 0)) ++ ((List.replicate 16 (List.replicate 8 (.int .u16 0))).flatten) ++ ((List.replicate 16 (List.replicate 8 (.int .u16 0))).flatten) ++ (List.replicate 256 (.int .u16 0))) ++ ((List.replicate 4 (List.replicate 64 (.int .u16 0))).flatten) ++ ((List.replicate 14 (List.replicate 32 (.int .u16 0))).flatten) ++ (List.replicate 16 (.int .u16 0)) ++ [.nils]) := by kernel_rfl
theorem t151_zv : zval Go.Proofs.Try.prog 151 = some (.agg ([.int .i64 0] ++ [.int .i64 0] ++ [.int .i64 0] ++ [.int .i64 0] ++ (List.replicate 4 (.int .i64 0)) ++ ((List.replicate 12 (List.replicate 16 (.int .u16 0))).flatten) ++ ((List.replicate 12 (List.replicate 16 (.int .u16 0))).flatten) ++ (List.replicate 12 (.int .u16 0)) ++ (List.replicate 12 (.int .u16 0)) ++ (List.replicate 12 (.int .u16 0)) ++ (List.replicate 12 (.int .u16 0)) ++ ((List.replicate 1 (.int .u16 0)) ++ (List.replicate 1 (.int .u16 0)) ++ ((List.replicate 16 (List.replicate 8 (.int .u16 0))).flatten) ++ ((List.replicate 16 (List.replicate 8 (.int .u16 0))).flatten) ++ (List.replicate 256 (.int .u16 0))) ++ ((List.replicate 1 (.int .u16 0)) ++ (List.replicate 1 (.int .u16 0)) ++ ((List.replicate 16 (List.replicate 8 (.int .u16 0))).flatten) ++ ((List.replicate 16 (List.replicate 8 (.int .u16 0))).flatten) ++ (List.replicate 256 (.int .u16 0))) ++ ((List.replicate 4 (List.replicate 64 (.int .u16 0))).flatten) ++ ((List.replicate 14 (List.replicate 32 (.int .u16 0))).flatten) ++ (List.replicate 16 (.int .u16 0)) ++ [.nils])) := by kernel_rfl
theorem t151_f0 : fieldT Go.Proofs.Try.prog 151 0 = some (0, 3) := by kernel_rfl
theorem t151_f1 : fieldT Go.Proofs.Try.prog 151 1 = some (1, 3) := by kernel_rfl
theorem t151_f2 : fieldT Go.Proofs.Try.prog 151 2 = some (2, 3) := by kernel_rfl
theorem t151_f3 : fieldT Go.Proofs.Try.prog 151 3 = some (3, 3) := by kernel_rfl
theorem t151_f4 : fieldT Go.Proofs.Try.prog 151 4 = some (4, 82) := by kernel_rfl
theorem t151_f5 : fieldT Go.Proofs.Try.prog 151 5 = some (8, 138) := by kernel_rfl
theorem t151_f6 : fieldT Go.Proofs.Try.prog 151 6 = some (200, 138) := by kernel_rfl
theorem t151_f7 : fieldT Go.Proofs.Try.prog 151 7 = some (392, 139) := by kernel_rfl
theorem t151_f8 : fieldT Go.Proofs.Try.prog 151 8 = some (404, 139) := by kernel_rfl
theorem t151_f9 : fieldT Go.Proofs.Try.prog 151 9 = some (416, 139) := by kernel_rfl
theorem t151_f10 : fieldT Go.Proofs.Try.prog 151 10 = some (428, 139) := by kernel_rfl
theorem t151_f11 : fieldT Go.Proofs.Try.prog 151 11 = some (440, 145) := by kernel_rfl
theorem t151_f12 : fieldT Go.Proofs.Try.prog 151 12 = some (954, 145) := by kernel_rfl
theorem t151_f13 : fieldT Go.Proofs.Try.prog 151 13 = some (1468, 147) := by kernel_rfl
theorem t151_f14 : fieldT Go.Proofs.Try.prog 151 14 = some (1724, 149) := by kernel_rfl
theorem t151_f15 : fieldT Go.Proofs.Try.prog 151 15 = some (2172, 137) := by kernel_rfl
theorem t151_f16 : fieldT Go.Proofs.Try.prog 151 16 = some (2188, 135) := by kernel_rfl
theorem t151_pl : placesT Go.Proofs.Try.prog 151 = some [(0, 1), (1, 1), (2, 1), (3, 1), (4, 4), (8, 192), (200, 192), (392, 12), (404, 12), (416, 12), (428, 12), (440, 514), (954, 514), (1468, 256), (1724, 448), (2172, 16), (2188, 1)] := by kernel_rfl
theorem t153_sz : sizeT Go.Proofs.Try.prog 153 = some 768 := by kernel_rfl
theorem t153_by : bytesT Go.Proofs.Try.prog 153 = some 1536 := by kernel_rfl
theorem t153_z : zav Go.Proofs.Try.prog 153 = some (List.replicate 768 (.int .u16 0)) := by kernel_rfl
theorem t153_zv : zval Go.Proofs.Try.prog 153 = some (.agg (List.replicate 768 (.int .u16 0))) := by kernel_rfl
theorem t154_sz : sizeT Go.Proofs.Try.prog 154 = some 1 := by kernel_rfl
theorem t154_by : bytesT Go.Proofs.Try.prog 154 = some 24 := by kernel_rfl
theorem t154_z : zav Go.Proofs.Try.prog 154 = some [.nils] := by kernel_rfl
theorem t154_d : dflt Go.Proofs.Try.prog 154 = .nils := by kernel_rfl
theorem t154_zv : zval Go.Proofs.Try.prog 154 = some (.nils) := by kernel_rfl
theorem t155_sz : sizeT Go.Proofs.Try.prog 155 = some 5 := by kernel_rfl
theorem t155_z : zav Go.Proofs.Try.prog 155 = some [.int .u64 0, .int .u32 0, .int .u8 0, .int .i64 0, .nils] := by kernel_rfl
theorem t155_zv : zval Go.Proofs.Try.prog 155 = some (.agg [.int .u64 0, .int .u32 0, .int .u8 0, .int .i64 0, .nils]) := by kernel_rfl
theorem t155_f0 : fieldT Go.Proofs.Try.prog 155 0 = some (0, 116) := by kernel_rfl
theorem t155_f1 : fieldT Go.Proofs.Try.prog 155 1 = some (1, 108) := by kernel_rfl
theorem t155_f2 : fieldT Go.Proofs.Try.prog 155 2 = some (2, 5) := by kernel_rfl
theorem t155_f3 : fieldT Go.Proofs.Try.prog 155 3 = some (3, 3) := by kernel_rfl
theorem t155_f4 : fieldT Go.Proofs.Try.prog 155 4 = some (4, 22) := by kernel_rfl
theorem t155_pl : placesT Go.Proofs.Try.prog 155 = some [(0, 1), (1, 1), (2, 1), (3, 1), (4, 1)] := by kernel_rfl
theorem t156_sz : sizeT Go.Proofs.Try.prog 156 = some 5 := by kernel_rfl
theorem t156_z : zav Go.Proofs.Try.prog 156 = some [.int .u64 0, .int .u32 0, .int .u8 0, .int .i64 0, .nils] := by kernel_rfl
theorem t156_zv : zval Go.Proofs.Try.prog 156 = some (.agg [.int .u64 0, .int .u32 0, .int .u8 0, .int .i64 0, .nils]) := by kernel_rfl
theorem t156_f0 : fieldT Go.Proofs.Try.prog 156 0 = some (0, 116) := by kernel_rfl
theorem t156_f1 : fieldT Go.Proofs.Try.prog 156 1 = some (1, 108) := by kernel_rfl
theorem t156_f2 : fieldT Go.Proofs.Try.prog 156 2 = some (2, 5) := by kernel_rfl
theorem t156_f3 : fieldT Go.Proofs.Try.prog 156 3 = some (3, 3) := by kernel_rfl
theorem t156_f4 : fieldT Go.Proofs.Try.prog 156 4 = some (4, 22) := by kernel_rfl
theorem t156_pl : placesT Go.Proofs.Try.prog 156 = some [(0, 1), (1, 1), (2, 1), (3, 1), (4, 1)] := by kernel_rfl
theorem t157_sz : sizeT Go.Proofs.Try.prog 157 = some 2 := by kernel_rfl
theorem t157_z : zav Go.Proofs.Try.prog 157 = some [.nils, .int .u64 0] := by kernel_rfl
theorem t157_zv : zval Go.Proofs.Try.prog 157 = some (.agg [.nils, .int .u64 0]) := by kernel_rfl
theorem t157_f0 : fieldT Go.Proofs.Try.prog 157 0 = some (0, 22) := by kernel_rfl
theorem t157_f1 : fieldT Go.Proofs.Try.prog 157 1 = some (1, 116) := by kernel_rfl
theorem t157_pl : placesT Go.Proofs.Try.prog 157 = some [(0, 1), (1, 1)] := by kernel_rfl
theorem t158_sz : sizeT Go.Proofs.Try.prog 158 = some 2 := by kernel_rfl
theorem t158_z : zav Go.Proofs.Try.prog 158 = some [.nils, .int .u64 0] := by kernel_rfl
theorem t158_zv : zval Go.Proofs.Try.prog 158 = some (.agg [.nils, .int .u64 0]) := by kernel_rfl
theorem t158_f0 : fieldT Go.Proofs.Try.prog 158 0 = some (0, 22) := by kernel_rfl
theorem t158_f1 : fieldT Go.Proofs.Try.prog 158 1 = some (1, 116) := by kernel_rfl
theorem t158_pl : placesT Go.Proofs.Try.prog 158 = some [(0, 1), (1, 1)] := by kernel_rfl
theorem t163_sz : sizeT Go.Proofs.Try.prog 163 = some 4 := by kernel_rfl
theorem t163_z : zav Go.Proofs.Try.prog 163 = some [.nils, .int .u32 0, .int .u32 0, .bool false] := by kernel_rfl
theorem t163_zv : zval Go.Proofs.Try.prog 163 = some (.agg [.nils, .int .u32 0, .int .u32 0, .bool false]) := by kernel_rfl
theorem t163_f0 : fieldT Go.Proofs.Try.prog 163 0 = some (0, 22) := by kernel_rfl
theorem t163_f1 : fieldT Go.Proofs.Try.prog 163 1 = some (1, 108) := by kernel_rfl
theorem t163_f2 : fieldT Go.Proofs.Try.prog 163 2 = some (2, 108) := by kernel_rfl
theorem t163_f3 : fieldT Go.Proofs.Try.prog 163 3 = some (3, 4) := by kernel_rfl
theorem t163_pl : placesT Go.Proofs.Try.prog 163 = some [(0, 1), (1, 1), (2, 1), (3, 1)] := by kernel_rfl
theorem t164_sz : sizeT Go.Proofs.Try.prog 164 = some 4 := by kernel_rfl
theorem t164_z : zav Go.Proofs.Try.prog 164 = some [.nils, .int .u32 0, .int .u32 0, .bool false] := by kernel_rfl
theorem t164_zv : zval Go.Proofs.Try.prog 164 = some (.agg [.nils, .int .u32 0, .int .u32 0, .bool false]) := by kernel_rfl
theorem t164_f0 : fieldT Go.Proofs.Try.prog 164 0 = some (0, 22) := by kernel_rfl
theorem t164_f1 : fieldT Go.Proofs.Try.prog 164 1 = some (1, 108) := by kernel_rfl
theorem t164_f2 : fieldT Go.Proofs.Try.prog 164 2 = some (2, 108) := by kernel_rfl
theorem t164_f3 : fieldT Go.Proofs.Try.prog 164 3 = some (3, 4) := by kernel_rfl
theorem t164_pl : placesT Go.Proofs.Try.prog 164 = some [(0, 1), (1, 1), (2, 1), (3, 1)] := by kernel_rfl
theorem t165_sz : sizeT Go.Proofs.Try.prog 165 = some 1 := by kernel_rfl
theorem t165_by : bytesT Go.Proofs.Try.prog 165 = some 16 := by kernel_rfl
theorem t165_z : zav Go.Proofs.Try.prog 165 = some [.nili] := by kernel_rfl
theorem t165_d : dflt Go.Proofs.Try.prog 165 = .nili := by kernel_rfl
theorem t165_zv : zval Go.Proofs.Try.prog 165 = some (.nili) := by kernel_rfl
theorem t166_sz : sizeT Go.Proofs.Try.prog 166 = some 1 := by kernel_rfl
theorem t166_by : bytesT Go.Proofs.Try.prog 166 = some 16 := by kernel_rfl
theorem t166_z : zav Go.Proofs.Try.prog 166 = some [.nili] := by kernel_rfl
theorem t166_d : dflt Go.Proofs.Try.prog 166 = .nili := by kernel_rfl
theorem t166_zv : zval Go.Proofs.Try.prog 166 = some (.nili) := by kernel_rfl
theorem t167_sz : sizeT Go.Proofs.Try.prog 167 = some 4 := by kernel_rfl
theorem t167_z : zav Go.Proofs.Try.prog 167 = some [.nilp, .nili, .nils, .int .i64 0] := by kernel_rfl
theorem t167_zv : zval Go.Proofs.Try.prog 167 = some (.agg [.nilp, .nili, .nils, .int .i64 0]) := by kernel_rfl
theorem t167_f0 : fieldT Go.Proofs.Try.prog 167 0 = some (0, 59) := by kernel_rfl
theorem t167_f1 : fieldT Go.Proofs.Try.prog 167 1 = some (1, 166) := by kernel_rfl
theorem t167_f2 : fieldT Go.Proofs.Try.prog 167 2 = some (2, 22) := by kernel_rfl
theorem t167_f3 : fieldT Go.Proofs.Try.prog 167 3 = some (3, 3) := by kernel_rfl
theorem t167_pl : placesT Go.Proofs.Try.prog 167 = some [(0, 1), (1, 1), (2, 1), (3, 1)] := by kernel_rfl
theorem t168_sz : sizeT Go.Proofs.Try.prog 168 = some 4 := by kernel_rfl
theorem t168_z : zav Go.Proofs.Try.prog 168 = some [.nilp, .nili, .nils, .int .i64 0] := by kernel_rfl
theorem t168_zv : zval Go.Proofs.Try.prog 168 = some (.agg [.nilp, .nili, .nils, .int .i64 0]) := by kernel_rfl
theorem t168_f0 : fieldT Go.Proofs.Try.prog 168 0 = some (0, 59) := by kernel_rfl
theorem t168_f1 : fieldT Go.Proofs.Try.prog 168 1 = some (1, 166) := by kernel_rfl
theorem t168_f2 : fieldT Go.Proofs.Try.prog 168 2 = some (2, 22) := by kernel_rfl
theorem t168_f3 : fieldT Go.Proofs.Try.prog 168 3 = some (3, 3) := by kernel_rfl
theorem t168_pl : placesT Go.Proofs.Try.prog 168 = some [(0, 1), (1, 1), (2, 1), (3, 1)] := by kernel_rfl
theorem t170_sz : sizeT Go.Proofs.Try.prog 170 = some 1 := by kernel_rfl
theorem t170_by : bytesT Go.Proofs.Try.prog 170 = some 8 := by kernel_rfl
theorem t170_z : zav Go.Proofs.Try.prog 170 = some [.nilp] := by kernel_rfl
theorem t170_d : dflt Go.Proofs.Try.prog 170 = .nilp := by kernel_rfl
theorem t170_zv : zval Go.Proofs.Try.prog 170 = some (.nilp) := by kernel_rfl
theorem t172_sz : sizeT Go.Proofs.Try.prog 172 = some 1 := by kernel_rfl
theorem t172_by : bytesT Go.Proofs.Try.prog 172 = some 8 := by kernel_rfl
theorem t172_z : zav Go.Proofs.Try.prog 172 = some [.nilp] := by kernel_rfl
theorem t172_d : dflt Go.Proofs.Try.prog 172 = .nilp := by kernel_rfl
theorem t172_zv : zval Go.Proofs.Try.prog 172 = some (.nilp) := by kernel_rfl
theorem t174_sz : sizeT Go.Proofs.Try.prog 174 = some 1 := by kernel_rfl
theorem t174_by : bytesT Go.Proofs.Try.prog 174 = some 8 := by kernel_rfl
theorem t174_z : zav Go.Proofs.Try.prog 174 = some [.nilf] := by kernel_rfl
theorem t174_d : dflt Go.Proofs.Try.prog 174 = .nilf := by kernel_rfl
theorem t174_zv : zval Go.Proofs.Try.prog 174 = some (.nilf) := by kernel_rfl
theorem t177_sz : sizeT Go.Proofs.Try.prog 177 = some 5 := by kernel_rfl
theorem t177_z : zav Go.Proofs.Try.prog 177 = some [.nils, .int .i64 0, .int .u64 0, .int .u64 0, .bool false] := by kernel_rfl
theorem t177_zv : zval Go.Proofs.Try.prog 177 = some (.agg [.nils, .int .i64 0, .int .u64 0, .int .u64 0, .bool false]) := by kernel_rfl
theorem t177_f0 : fieldT Go.Proofs.Try.prog 177 0 = some (0, 22) := by kernel_rfl
theorem t177_f1 : fieldT Go.Proofs.Try.prog 177 1 = some (1, 3) := by kernel_rfl
theorem t177_f2 : fieldT Go.Proofs.Try.prog 177 2 = some (2, 116) := by kernel_rfl
theorem t177_f3 : fieldT Go.Proofs.Try.prog 177 3 = some (3, 116) := by kernel_rfl
theorem t177_f4 : fieldT Go.Proofs.Try.prog 177 4 = some (4, 4) := by kernel_rfl
theorem t177_pl : placesT Go.Proofs.Try.prog 177 = some [(0, 1), (1, 1), (2, 1), (3, 1), (4, 1)] := by kernel_rfl
theorem t178_sz : sizeT Go.Proofs.Try.prog 178 = some 5 := by kernel_rfl
theorem t178_z : zav Go.Proofs.Try.prog 178 = some [.nils, .int .i64 0, .int .u64 0, .int .u64 0, .bool false] := by kernel_rfl
theorem t178_zv : zval Go.Proofs.Try.prog 178 = some (.agg [.nils, .int .i64 0, .int .u64 0, .int .u64 0, .bool false]) := by kernel_rfl
theorem t178_f0 : fieldT Go.Proofs.Try.prog 178 0 = some (0, 22) := by kernel_rfl
theorem t178_f1 : fieldT Go.Proofs.Try.prog 178 1 = some (1, 3) := by kernel_rfl
theorem t178_f2 : fieldT Go.Proofs.Try.prog 178 2 = some (2, 116) := by kernel_rfl
theorem t178_f3 : fieldT Go.Proofs.Try.prog 178 3 = some (3, 116) := by kernel_rfl
theorem t178_f4 : fieldT Go.Proofs.Try.prog 178 4 = some (4, 4) := by kernel_rfl
theorem t178_pl : placesT Go.Proofs.Try.prog 178 = some [(0, 1), (1, 1), (2, 1), (3, 1), (4, 1)] := by kernel_rfl
theorem t180_sz : sizeT Go.Proofs.Try.prog 180 = some 1 := by kernel_rfl
theorem t180_by : bytesT Go.Proofs.Try.prog 180 = some 8 := by kernel_rfl
theorem t180_z : zav Go.Proofs.Try.prog 180 = some [.nilp] := by kernel_rfl
theorem t180_d : dflt Go.Proofs.Try.prog 180 = .nilp := by kernel_rfl
theorem t180_zv : zval Go.Proofs.Try.prog 180 = some (.nilp) := by kernel_rfl
theorem t181_sz : sizeT Go.Proofs.Try.prog 181 = some 3 := by kernel_rfl
theorem t181_by : bytesT Go.Proofs.Try.prog 181 = some 24 := by kernel_rfl
theorem t181_z : zav Go.Proofs.Try.prog 181 = some (List.replicate 3 (.int .i64 0)) := by kernel_rfl
theorem t181_zv : zval Go.Proofs.Try.prog 181 = some (.agg (List.replicate 3 (.int .i64 0))) := by kernel_rfl
theorem t182_sz : sizeT Go.Proofs.Try.prog 182 = some 12 := by kernel_rfl
theorem t182_z : zav Go.Proofs.Try.prog 182 = some ([.nils] ++ [.int .i64 0] ++ [.int .i64 0] ++ [.nils] ++ [.int .i64 0] ++ [.bool false] ++ [.bool false] ++ (List.replicate 3 (.int .i64 0)) ++ [.nilp] ++ [.int .i64 0]) := by kernel_rfl
theorem t182_zv : zval Go.Proofs.Try.prog 182 = some (.agg ([.nils] ++ [.int .i64 0] ++ [.int .i64 0] ++ [.nils] ++ [.int .i64 0] ++ [.bool false] ++ [.bool false] ++ (List.replicate 3 (.int .i64 0)) ++ [.nilp] ++ [.int .i64 0])) := by kernel_rfl
theorem t182_f0 : fieldT Go.Proofs.Try.prog 182 0 = some (0, 22) := by kernel_rfl
theorem t182_f1 : fieldT Go.Proofs.Try.prog 182 1 = some (1, 3) := by kernel_rfl
theorem t182_f2 : fieldT Go.Proofs.Try.prog 182 2 = some (2, 3) := by kernel_rfl
theorem t182_f3 : fieldT Go.Proofs.Try.prog 182 3 = some (3, 22) := by kernel_rfl
theorem t182_f4 : fieldT Go.Proofs.Try.prog 182 4 = some (4, 3) := by kernel_rfl
theorem t182_f5 : fieldT Go.Proofs.Try.prog 182 5 = some (5, 4) := by kernel_rfl
theorem t182_f6 : fieldT Go.Proofs.Try.prog 182 6 = some (6, 4) := by kernel_rfl
theorem t182_f7 : fieldT Go.Proofs.Try.prog 182 7 = some (7, 181) := by kernel_rfl
theorem t182_f8 : fieldT Go.Proofs.Try.prog 182 8 = some (10, 59) := by kernel_rfl
theorem t182_f9 : fieldT Go.Proofs.Try.prog 182 9 = some (11, 25) := by kernel_rfl
theorem t182_pl : placesT Go.Proofs.Try.prog 182 = some [(0, 1), (1, 1), (2, 1), (3, 1), (4, 1), (5, 1), (6, 1), (7, 3), (10, 1), (11, 1)] := by kernel_rfl
theorem t183_sz : sizeT Go.Proofs.Try.prog 183 = some 12 := by kernel_rfl
theorem t183_z : zav Go.Proofs.Try.prog 183 = some ([.nils] ++ [.int .i64 0] ++ [.int .i64 0] ++ [.nils] ++ [.int .i64 0] ++ [.bool false] ++ [.bool false] ++ (List.replicate 3 (.int .i64 0)) ++ [.nilp] ++ [.int .i64 0]) := by kernel_rfl
theorem t183_zv : zval Go.Proofs.Try.prog 183 = some (.agg ([.nils] ++ [.int .i64 0] ++ [.int .i64 0] ++ [.nils] ++ [.int .i64 0] ++ [.bool false] ++ [.bool false] ++ (List.replicate 3 (.int .i64 0)) ++ [.nilp] ++ [.int .i64 0])) := by kernel_rfl
theorem t183_f0 : fieldT Go.Proofs.Try.prog 183 0 = some (0, 22) := by kernel_rfl
theorem t183_f1 : fieldT Go.Proofs.Try.prog 183 1 = some (1, 3) := by kernel_rfl
theorem t183_f2 : fieldT Go.Proofs.Try.prog 183 2 = some (2, 3) := by kernel_rfl
theorem t183_f3 : fieldT Go.Proofs.Try.prog 183 3 = some (3, 22) := by kernel_rfl
theorem t183_f4 : fieldT Go.Proofs.Try.prog 183 4 = some (4, 3) := by kernel_rfl
theorem t183_f5 : fieldT Go.Proofs.Try.prog 183 5 = some (5, 4) := by kernel_rfl
theorem t183_f6 : fieldT Go.Proofs.Try.prog 183 6 = some (6, 4) := by kernel_rfl
theorem t183_f7 : fieldT Go.Proofs.Try.prog 183 7 = some (7, 181) := by kernel_rfl
theorem t183_f8 : fieldT Go.Proofs.Try.prog 183 8 = some (10, 59) := by kernel_rfl
theorem t183_f9 : fieldT Go.Proofs.Try.prog 183 9 = some (11, 25) := by kernel_rfl
theorem t183_pl : placesT Go.Proofs.Try.prog 183 = some [(0, 1), (1, 1), (2, 1), (3, 1), (4, 1), (5, 1), (6, 1), (7, 3), (10, 1), (11, 1)] := by kernel_rfl
theorem t184_sz : sizeT Go.Proofs.Try.prog 184 = some 1 := by kernel_rfl
theorem t184_by : bytesT Go.Proofs.Try.prog 184 = some 8 := by kernel_rfl
theorem t184_z : zav Go.Proofs.Try.prog 184 = some [.nilp] := by kernel_rfl
theorem t184_d : dflt Go.Proofs.Try.prog 184 = .nilp := by kernel_rfl
theorem t184_zv : zval Go.Proofs.Try.prog 184 = some (.nilp) := by kernel_rfl
theorem t185_sz : sizeT Go.Proofs.Try.prog 185 = some 11 := by kernel_rfl
theorem t185_z : zav Go.Proofs.Try.prog 185 = some [.nils, .int .i64 0, .int .i64 0, .nils, .int .i64 0, .bool false, .bool false, .int .i64 0, .int .i64 0, .int .i64 0, .nilp] := by kernel_rfl
theorem t185_zv : zval Go.Proofs.Try.prog 185 = some (.agg [.nils, .int .i64 0, .int .i64 0, .nils, .int .i64 0, .bool false, .bool false, .int .i64 0, .int .i64 0, .int .i64 0, .nilp]) := by kernel_rfl
theorem t185_f0 : fieldT Go.Proofs.Try.prog 185 0 = some (0, 22) := by kernel_rfl
theorem t185_f1 : fieldT Go.Proofs.Try.prog 185 1 = some (1, 3) := by kernel_rfl
theorem t185_f2 : fieldT Go.Proofs.Try.prog 185 2 = some (2, 3) := by kernel_rfl
theorem t185_f3 : fieldT Go.Proofs.Try.prog 185 3 = some (3, 22) := by kernel_rfl
theorem t185_f4 : fieldT Go.Proofs.Try.prog 185 4 = some (4, 3) := by kernel_rfl
theorem t185_f5 : fieldT Go.Proofs.Try.prog 185 5 = some (5, 4) := by kernel_rfl
theorem t185_f6 : fieldT Go.Proofs.Try.prog 185 6 = some (6, 4) := by kernel_rfl
theorem t185_f7 : fieldT Go.Proofs.Try.prog 185 7 = some (7, 3) := by kernel_rfl
theorem t185_f8 : fieldT Go.Proofs.Try.prog 185 8 = some (8, 3) := by kernel_rfl
theorem t185_f9 : fieldT Go.Proofs.Try.prog 185 9 = some (9, 3) := by kernel_rfl
theorem t185_f10 : fieldT Go.Proofs.Try.prog 185 10 = some (10, 65) := by kernel_rfl
theorem t185_pl : placesT Go.Proofs.Try.prog 185 = some [(0, 1), (1, 1), (2, 1), (3, 1), (4, 1), (5, 1), (6, 1), (7, 1), (8, 1), (9, 1), (10, 1)] := by kernel_rfl
theorem t186_sz : sizeT Go.Proofs.Try.prog 186 = some 11 := by kernel_rfl
theorem t186_z : zav Go.Proofs.Try.prog 186 = some [.nils, .int .i64 0, .int .i64 0, .nils, .int .i64 0, .bool false, .bool false, .int .i64 0, .int .i64 0, .int .i64 0, .nilp] := by kernel_rfl
theorem t186_zv : zval Go.Proofs.Try.prog 186 = some (.agg [.nils, .int .i64 0, .int .i64 0, .nils, .int .i64 0, .bool false, .bool false, .int .i64 0, .int .i64 0, .int .i64 0, .nilp]) := by kernel_rfl
theorem t186_f0 : fieldT Go.Proofs.Try.prog 186 0 = some (0, 22) := by kernel_rfl
theorem t186_f1 : fieldT Go.Proofs.Try.prog 186 1 = some (1, 3) := by kernel_rfl
theorem t186_f2 : fieldT Go.Proofs.Try.prog 186 2 = some (2, 3) := by kernel_rfl
theorem t186_f3 : fieldT Go.Proofs.Try.prog 186 3 = some (3, 22) := by kernel_rfl
theorem t186_f4 : fieldT Go.Proofs.Try.prog 186 4 = some (4, 3) := by kernel_rfl
theorem t186_f5 : fieldT Go.Proofs.Try.prog 186 5 = some (5, 4) := by kernel_rfl
theorem t186_f6 : fieldT Go.Proofs.Try.prog 186 6 = some (6, 4) := by kernel_rfl
theorem t186_f7 : fieldT Go.Proofs.Try.prog 186 7 = some (7, 3) := by kernel_rfl
theorem t186_f8 : fieldT Go.Proofs.Try.prog 186 8 = some (8, 3) := by kernel_rfl
theorem t186_f9 : fieldT Go.Proofs.Try.prog 186 9 = some (9, 3) := by kernel_rfl
theorem t186_f10 : fieldT Go.Proofs.Try.prog 186 10 = some (10, 65) := by kernel_rfl
theorem t186_pl : placesT Go.Proofs.Try.prog 186 = some [(0, 1), (1, 1), (2, 1), (3, 1), (4, 1), (5, 1), (6, 1), (7, 1), (8, 1), (9, 1), (10, 1)] := by kernel_rfl
theorem t188_sz : sizeT Go.Proofs.Try.prog 188 = some 1 := by kernel_rfl
theorem t188_by : bytesT Go.Proofs.Try.prog 188 = some 8 := by kernel_rfl
theorem t188_z : zav Go.Proofs.Try.prog 188 = some [.nilp] := by kernel_rfl
theorem t188_d : dflt Go.Proofs.Try.prog 188 = .nilp := by kernel_rfl
theorem t188_zv : zval Go.Proofs.Try.prog 188 = some (.nilp) := by kernel_rfl
theorem t191_sz : sizeT Go.Proofs.Try.prog 191 = some 1 := by kernel_rfl
theorem t191_by : bytesT Go.Proofs.Try.prog 191 = some 8 := by kernel_rfl
theorem t191_z : zav Go.Proofs.Try.prog 191 = some [.nilp] := by kernel_rfl
theorem t191_d : dflt Go.Proofs.Try.prog 191 = .nilp := by kernel_rfl
theorem t191_zv : zval Go.Proofs.Try.prog 191 = some (.nilp) := by kernel_rfl
theorem t192_sz : sizeT Go.Proofs.Try.prog 192 = some 14 := by kernel_rfl
theorem t192_z : zav Go.Proofs.Try.prog 192 = some [.int .i64 0, .int .i64 0, .int .i64 0, .int .i64 0, .int .i64 0, .int .i64 0, .int .i64 0, .nils, .int .u32 0, .nils, .nilp, .nilp, .bool false, .nils] := by kernel_rfl
theorem t192_zv : zval Go.Proofs.Try.prog 192 = some (.agg [.int .i64 0, .int .i64 0, .int .i64 0, .int .i64 0, .int .i64 0, .int .i64 0, .int .i64 0, .nils, .int .u32 0, .nils, .nilp, .nilp, .bool false, .nils]) := by kernel_rfl
theorem t192_f0 : fieldT Go.Proofs.Try.prog 192 0 = some (0, 110) := by kernel_rfl
theorem t192_f1 : fieldT Go.Proofs.Try.prog 192 1 = some (9, 22) := by kernel_rfl
theorem t192_f2 : fieldT Go.Proofs.Try.prog 192 2 = some (10, 188) := by kernel_rfl
theorem t192_f3 : fieldT Go.Proofs.Try.prog 192 3 = some (11, 59) := by kernel_rfl
theorem t192_f4 : fieldT Go.Proofs.Try.prog 192 4 = some (12, 4) := by kernel_rfl
theorem t192_f5 : fieldT Go.Proofs.Try.prog 192 5 = some (13, 22) := by kernel_rfl
theorem t192_pl : placesT Go.Proofs.Try.prog 192 = some [(0, 9), (9, 1), (10, 1), (11, 1), (12, 1), (13, 1)] := by kernel_rfl
theorem t193_sz : sizeT Go.Proofs.Try.prog 193 = some 14 := by kernel_rfl
theorem t193_z : zav Go.Proofs.Try.prog 193 = some [.int .i64 0, .int .i64 0, .int .i64 0, .int .i64 0, .int .i64 0, .int .i64 0, .int .i64 0, .nils, .int .u32 0, .nils, .nilp, .nilp, .bool false, .nils] := by kernel_rfl
theorem t193_zv : zval Go.Proofs.Try.prog 193 = some (.agg [.int .i64 0, .int .i64 0, .int .i64 0, .int .i64 0, .int .i64 0, .int .i64 0, .int .i64 0, .nils, .int .u32 0, .nils, .nilp, .nilp, .bool false, .nils]) := by kernel_rfl
theorem t193_f0 : fieldT Go.Proofs.Try.prog 193 0 = some (0, 110) := by kernel_rfl
theorem t193_f1 : fieldT Go.Proofs.Try.prog 193 1 = some (9, 22) := by kernel_rfl
theorem t193_f2 : fieldT Go.Proofs.Try.prog 193 2 = some (10, 188) := by kernel_rfl
theorem t193_f3 : fieldT Go.Proofs.Try.prog 193 3 = some (11, 59) := by kernel_rfl
theorem t193_f4 : fieldT Go.Proofs.Try.prog 193 4 = some (12, 4) := by kernel_rfl
theorem t193_f5 : fieldT Go.Proofs.Try.prog 193 5 = some (13, 22) := by kernel_rfl
theorem t193_pl : placesT Go.Proofs.Try.prog 193 = some [(0, 9), (9, 1), (10, 1), (11, 1), (12, 1), (13, 1)] := by kernel_rfl
theorem t194_sz : sizeT Go.Proofs.Try.prog 194 = some 1 := by kernel_rfl
theorem t194_by : bytesT Go.Proofs.Try.prog 194 = some 8 := by kernel_rfl
theorem t194_z : zav Go.Proofs.Try.prog 194 = some [.nilf] := by kernel_rfl
theorem t194_d : dflt Go.Proofs.Try.prog 194 = .nilf := by kernel_rfl
theorem t194_zv : zval Go.Proofs.Try.prog 194 = some (.nilf) := by kernel_rfl
theorem t195_sz : sizeT Go.Proofs.Try.prog 195 = some 1 := by kernel_rfl
theorem t195_by : bytesT Go.Proofs.Try.prog 195 = some 8 := by kernel_rfl
theorem t195_z : zav Go.Proofs.Try.prog 195 = some [.nilf] := by kernel_rfl
theorem t195_d : dflt Go.Proofs.Try.prog 195 = .nilf := by kernel_rfl
theorem t195_zv : zval Go.Proofs.Try.prog 195 = some (.nilf) := by kernel_rfl
theorem t199_sz : sizeT Go.Proofs.Try.prog 199 = some 32 := by kernel_rfl
theorem t199_by : bytesT Go.Proofs.Try.prog 199 = some 32 := by kernel_rfl
theorem t199_z : zav Go.Proofs.Try.prog 199 = some (List.replicate 32 (.int .u8 0)) := by kernel_rfl
theorem t199_zv : zval Go.Proofs.Try.prog 199 = some (.agg (List.replicate 32 (.int .u8 0))) := by kernel_rfl
theorem t203_sz : sizeT Go.Proofs.Try.prog 203 = some 1 := by kernel_rfl
theorem t203_by : bytesT Go.Proofs.Try.prog 203 = some 24 := by kernel_rfl
theorem t203_z : zav Go.Proofs.Try.prog 203 = some [.nils] := by kernel_rfl
theorem t203_d : dflt Go.Proofs.Try.prog 203 = .nils := by kernel_rfl
theorem t203_zv : zval Go.Proofs.Try.prog 203 = some (.nils) := by kernel_rfl
theorem t208_sz : sizeT Go.Proofs.Try.prog 208 = some 1 := by kernel_rfl
theorem t208_by : bytesT Go.Proofs.Try.prog 208 = some 8 := by kernel_rfl
theorem t208_z : zav Go.Proofs.Try.prog 208 = some [.nilf] := by kernel_rfl
theorem t208_d : dflt Go.Proofs.Try.prog 208 = .nilf := by kernel_rfl
theorem t208_zv : zval Go.Proofs.Try.prog 208 = some (.nilf) := by kernel_rfl
theorem t209_sz : sizeT Go.Proofs.Try.prog 209 = some 1 := by kernel_rfl
theorem t209_by : bytesT Go.Proofs.Try.prog 209 = some 8 := by kernel_rfl
theorem t209_z : zav Go.Proofs.Try.prog 209 = some [.nilf] := by kernel_rfl
theorem t209_d : dflt Go.Proofs.Try.prog 209 = .nilf := by kernel_rfl
theorem t209_zv : zval Go.Proofs.Try.prog 209 = some (.nilf) := by kernel_rfl
theorem t220_sz : sizeT Go.Proofs.Try.prog 220 = some 1 := by kernel_rfl
theorem t220_by : bytesT Go.Proofs.Try.prog 220 = some 8 := by kernel_rfl
theorem t220_z : zav Go.Proofs.Try.prog 220 = some [.nilf] := by kernel_rfl
theorem t220_d : dflt Go.Proofs.Try.prog 220 = .nilf := by kernel_rfl
theorem t220_zv : zval Go.Proofs.Try.prog 220 = some (.nilf) := by kernel_rfl
theorem t228_sz : sizeT Go.Proofs.Try.prog 228 = some 1 := by kernel_rfl
theorem t228_by : bytesT Go.Proofs.Try.prog 228 = some 8 := by kernel_rfl
theorem t228_z : zav Go.Proofs.Try.prog 228 = some [.nilm] := by kernel_rfl
theorem t228_d : dflt Go.Proofs.Try.prog 228 = .nilm := by kernel_rfl
theorem t228_zv : zval Go.Proofs.Try.prog 228 = some (.nilm) := by kernel_rfl
theorem t229_sz : sizeT Go.Proofs.Try.prog 229 = some 4 := by kernel_rfl
theorem t229_z : zav Go.Proofs.Try.prog 229 = some [.nils, .int .i64 0, .int .i64 0, .nilm] := by kernel_rfl
theorem t229_zv : zval Go.Proofs.Try.prog 229 = some (.agg [.nils, .int .i64 0, .int .i64 0, .nilm]) := by kernel_rfl
theorem t229_f0 : fieldT Go.Proofs.Try.prog 229 0 = some (0, 22) := by kernel_rfl
theorem t229_f1 : fieldT Go.Proofs.Try.prog 229 1 = some (1, 3) := by kernel_rfl
theorem t229_f2 : fieldT Go.Proofs.Try.prog 229 2 = some (2, 3) := by kernel_rfl
theorem t229_f3 : fieldT Go.Proofs.Try.prog 229 3 = some (3, 228) := by kernel_rfl
theorem t229_pl : placesT Go.Proofs.Try.prog 229 = some [(0, 1), (1, 1), (2, 1), (3, 1)] := by kernel_rfl
theorem t230_sz : sizeT Go.Proofs.Try.prog 230 = some 4 := by kernel_rfl
theorem t230_z : zav Go.Proofs.Try.prog 230 = some [.nils, .int .i64 0, .int .i64 0, .nilm] := by kernel_rfl
theorem t230_zv : zval Go.Proofs.Try.prog 230 = some (.agg [.nils, .int .i64 0, .int .i64 0, .nilm]) := by kernel_rfl
theorem t230_f0 : fieldT Go.Proofs.Try.prog 230 0 = some (0, 22) := by kernel_rfl
theorem t230_f1 : fieldT Go.Proofs.Try.prog 230 1 = some (1, 3) := by kernel_rfl
theorem t230_f2 : fieldT Go.Proofs.Try.prog 230 2 = some (2, 3) := by kernel_rfl
theorem t230_f3 : fieldT Go.Proofs.Try.prog 230 3 = some (3, 228) := by kernel_rfl
theorem t230_pl : placesT Go.Proofs.Try.prog 230 = some [(0, 1), (1, 1), (2, 1), (3, 1)] := by kernel_rfl
theorem t231_sz : sizeT Go.Proofs.Try.prog 231 = some 2 := by kernel_rfl
theorem t231_by : bytesT Go.Proofs.Try.prog 231 = some 2 := by kernel_rfl
theorem t231_z : zav Go.Proofs.Try.prog 231 = some (List.replicate 2 (.int .u8 0)) := by kernel_rfl
theorem t231_zv : zval Go.Proofs.Try.prog 231 = some (.agg (List.replicate 2 (.int .u8 0))) := by kernel_rfl
theorem t232_sz : sizeT Go.Proofs.Try.prog 232 = some 2 := by kernel_rfl
theorem t232_by : bytesT Go.Proofs.Try.prog 232 = some 2 := by kernel_rfl
theorem t232_z : zav Go.Proofs.Try.prog 232 = some (List.replicate 2 (.int .u8 0)) := by kernel_rfl
theorem t232_zv : zval Go.Proofs.Try.prog 232 = some (.agg (List.replicate 2 (.int .u8 0))) := by kernel_rfl
theorem t236_sz : sizeT Go.Proofs.Try.prog 236 = some 1 := by kernel_rfl
theorem t236_by : bytesT Go.Proofs.Try.prog 236 = some 8 := by kernel_rfl
theorem t236_z : zav Go.Proofs.Try.prog 236 = some [.nilp] := by kernel_rfl
theorem t236_d : dflt Go.Proofs.Try.prog 236 = .nilp := by kernel_rfl
theorem t236_zv : zval Go.Proofs.Try.prog 236 = some (.nilp) := by kernel_rfl
theorem t240_sz : sizeT Go.Proofs.Try.prog 240 = some 1 := by kernel_rfl
theorem t240_by : bytesT Go.Proofs.Try.prog 240 = some 24 := by kernel_rfl
theorem t240_z : zav Go.Proofs.Try.prog 240 = some [.nils] := by kernel_rfl
theorem t240_d : dflt Go.Proofs.Try.prog 240 = .nils := by kernel_rfl
theorem t240_zv : zval Go.Proofs.Try.prog 240 = some (.nils) := by kernel_rfl
theorem t241_sz : sizeT Go.Proofs.Try.prog 241 = some 1 := by kernel_rfl
theorem t241_by : bytesT Go.Proofs.Try.prog 241 = some 8 := by kernel_rfl
theorem t241_z : zav Go.Proofs.Try.prog 241 = some [.nilf] := by kernel_rfl
theorem t241_d : dflt Go.Proofs.Try.prog 241 = .nilf := by kernel_rfl
theorem t241_zv : zval Go.Proofs.Try.prog 241 = some (.nilf) := by kernel_rfl
theorem t243_sz : sizeT Go.Proofs.Try.prog 243 = some 1 := by kernel_rfl
theorem t243_by : bytesT Go.Proofs.Try.prog 243 = some 8 := by kernel_rfl
theorem t243_z : zav Go.Proofs.Try.prog 243 = some [.nilf] := by kernel_rfl
theorem t243_d : dflt Go.Proofs.Try.prog 243 = .nilf := by kernel_rfl
theorem t243_zv : zval Go.Proofs.Try.prog 243 = some (.nilf) := by kernel_rfl
theorem t254_sz : sizeT Go.Proofs.Try.prog 254 = some 256 := by kernel_rfl
theorem t254_by : bytesT Go.Proofs.Try.prog 254 = some 1024 := by kernel_rfl
theorem t254_z : zav Go.Proofs.Try.prog 254 = some (List.replicate 256 (.int .u32 0)) := by kernel_rfl
theorem t254_zv : zval Go.Proofs.Try.prog 254 = some (.agg (List.replicate 256 (.int .u32 0))) := by kernel_rfl
theorem t255_sz : sizeT Go.Proofs.Try.prog 255 = some 1024 := by kernel_rfl
theorem t255_by : bytesT Go.Proofs.Try.prog 255 = some 4096 := by kernel_rfl
theorem t255_z : zav Go.Proofs.Try.prog 255 = some ((List.replicate 4 (List.replicate 256 (.int .u32 0))).flatten) := by kernel_rfl
theorem t255_zv : zval Go.Proofs.Try.prog 255 = some (.agg ((List.replicate 4 (List.replicate 256 (.int .u32 0))).flatten)) := by kernel_rfl
theorem t257_sz : sizeT Go.Proofs.Try.prog 257 = some 256 := by kernel_rfl
theorem t257_by : bytesT Go.Proofs.Try.prog 257 = some 2048 := by kernel_rfl
theorem t257_z : zav Go.Proofs.Try.prog 257 = some (List.replicate 256 (.int .u64 0)) := by kernel_rfl
theorem t257_zv : zval Go.Proofs.Try.prog 257 = some (.agg (List.replicate 256 (.int .u64 0))) := by kernel_rfl
theorem t259_sz : sizeT Go.Proofs.Try.prog 259 = some 8 := by kernel_rfl
theorem t259_by : bytesT Go.Proofs.Try.prog 259 = some 32 := by kernel_rfl
theorem t259_z : zav Go.Proofs.Try.prog 259 = some (List.replicate 8 (.int .u32 0)) := by kernel_rfl
theorem t259_zv : zval Go.Proofs.Try.prog 259 = some (.agg (List.replicate 8 (.int .u32 0))) := by kernel_rfl
theorem t261_sz : sizeT Go.Proofs.Try.prog 261 = some 10 := by kernel_rfl
theorem t261_z : zav Go.Proofs.Try.prog 261 = some ((List.replicate 8 (.int .u32 0)) ++ [.nils] ++ [.int .u64 0]) := by kernel_rfl
theorem t261_zv : zval Go.Proofs.Try.prog 261 = some (.agg ((List.replicate 8 (.int .u32 0)) ++ [.nils] ++ [.int .u64 0])) := by kernel_rfl
theorem t261_f0 : fieldT Go.Proofs.Try.prog 261 0 = some (0, 259) := by kernel_rfl
theorem t261_f1 : fieldT Go.Proofs.Try.prog 261 1 = some (8, 22) := by kernel_rfl
theorem t261_f2 : fieldT Go.Proofs.Try.prog 261 2 = some (9, 116) := by kernel_rfl
theorem t261_pl : placesT Go.Proofs.Try.prog 261 = some [(0, 8), (8, 1), (9, 1)] := by kernel_rfl
theorem t262_sz : sizeT Go.Proofs.Try.prog 262 = some 10 := by kernel_rfl
theorem t262_z : zav Go.Proofs.Try.prog 262 = some ((List.replicate 8 (.int .u32 0)) ++ [.nils] ++ [.int .u64 0]) := by kernel_rfl
theorem t262_zv : zval Go.Proofs.Try.prog 262 = some (.agg ((List.replicate 8 (.int .u32 0)) ++ [.nils] ++ [.int .u64 0])) := by kernel_rfl
theorem t262_f0 : fieldT Go.Proofs.Try.prog 262 0 = some (0, 259) := by kernel_rfl
theorem t262_f1 : fieldT Go.Proofs.Try.prog 262 1 = some (8, 22) := by kernel_rfl
theorem t262_f2 : fieldT Go.Proofs.Try.prog 262 2 = some (9, 116) := by kernel_rfl
theorem t262_pl : placesT Go.Proofs.Try.prog 262 = some [(0, 8), (8, 1), (9, 1)] := by kernel_rfl
theorem t265_sz : sizeT Go.Proofs.Try.prog 265 = some 1 := by kernel_rfl
theorem t265_by : bytesT Go.Proofs.Try.prog 265 = some 8 := by kernel_rfl
theorem t265_z : zav Go.Proofs.Try.prog 265 = some [.nilp] := by kernel_rfl
theorem t265_d : dflt Go.Proofs.Try.prog 265 = .nilp := by kernel_rfl
theorem t265_zv : zval Go.Proofs.Try.prog 265 = some (.nilp) := by kernel_rfl
theorem t266_sz : sizeT Go.Proofs.Try.prog 266 = some 5 := by kernel_rfl
theorem t266_z : zav Go.Proofs.Try.prog 266 = some ([.nilp] ++ (List.replicate 4 (.int .i64 0))) := by kernel_rfl
theorem t266_zv : zval Go.Proofs.Try.prog 266 = some (.agg ([.nilp] ++ (List.replicate 4 (.int .i64 0)))) := by kernel_rfl
theorem t266_f0 : fieldT Go.Proofs.Try.prog 266 0 = some (0, 188) := by kernel_rfl
theorem t266_f1 : fieldT Go.Proofs.Try.prog 266 1 = some (1, 82) := by kernel_rfl
theorem t266_pl : placesT Go.Proofs.Try.prog 266 = some [(0, 1), (1, 4)] := by kernel_rfl
theorem t267_sz : sizeT Go.Proofs.Try.prog 267 = some 5 := by kernel_rfl
theorem t267_z : zav Go.Proofs.Try.prog 267 = some ([.nilp] ++ (List.replicate 4 (.int .i64 0))) := by kernel_rfl
theorem t267_zv : zval Go.Proofs.Try.prog 267 = some (.agg ([.nilp] ++ (List.replicate 4 (.int .i64 0)))) := by kernel_rfl
theorem t267_f0 : fieldT Go.Proofs.Try.prog 267 0 = some (0, 188) := by kernel_rfl
theorem t267_f1 : fieldT Go.Proofs.Try.prog 267 1 = some (1, 82) := by kernel_rfl
theorem t267_pl : placesT Go.Proofs.Try.prog 267 = some [(0, 1), (1, 4)] := by kernel_rfl
theorem t271_sz : sizeT Go.Proofs.Try.prog 271 = some 64 := by kernel_rfl
theorem t271_by : bytesT Go.Proofs.Try.prog 271 = some 256 := by kernel_rfl
theorem t271_z : zav Go.Proofs.Try.prog 271 = some (List.replicate 64 (.int .u32 0)) := by kernel_rfl
theorem t271_zv : zval Go.Proofs.Try.prog 271 = some (.agg (List.replicate 64 (.int .u32 0))) := by kernel_rfl
theorem t279_sz : sizeT Go.Proofs.Try.prog 279 = some 4 := by kernel_rfl
theorem t279_z : zav Go.Proofs.Try.prog 279 = some [.nilp, .nilp, .nilp, .str ⟨#[]⟩] := by kernel_rfl
theorem t279_zv : zval Go.Proofs.Try.prog 279 = some (.agg [.nilp, .nilp, .nilp, .str ⟨#[]⟩]) := by kernel_rfl
theorem t279_f0 : fieldT Go.Proofs.Try.prog 279 0 = some (0, 17) := by kernel_rfl
theorem t279_f1 : fieldT Go.Proofs.Try.prog 279 1 = some (1, 17) := by kernel_rfl
theorem t279_f2 : fieldT Go.Proofs.Try.prog 279 2 = some (2, 17) := by kernel_rfl
theorem t279_f3 : fieldT Go.Proofs.Try.prog 279 3 = some (3, 9) := by kernel_rfl
theorem t279_pl : placesT Go.Proofs.Try.prog 279 = some [(0, 1), (1, 1), (2, 1), (3, 1)] := by kernel_rfl
theorem t280_sz : sizeT Go.Proofs.Try.prog 280 = some 4 := by kernel_rfl
theorem t280_z : zav Go.Proofs.Try.prog 280 = some [.nilp, .nilp, .nilp, .str ⟨#[]⟩] := by kernel_rfl
theorem t280_zv : zval Go.Proofs.Try.prog 280 = some (.agg [.nilp, .nilp, .nilp, .str ⟨#[]⟩]) := by kernel_rfl
theorem t280_f0 : fieldT Go.Proofs.Try.prog 280 0 = some (0, 17) := by kernel_rfl
theorem t280_f1 : fieldT Go.Proofs.Try.prog 280 1 = some (1, 17) := by kernel_rfl
theorem t280_f2 : fieldT Go.Proofs.Try.prog 280 2 = some (2, 17) := by kernel_rfl
theorem t280_f3 : fieldT Go.Proofs.Try.prog 280 3 = some (3, 9) := by kernel_rfl
theorem t280_pl : placesT Go.Proofs.Try.prog 280 = some [(0, 1), (1, 1), (2, 1), (3, 1)] := by kernel_rfl
theorem t281_sz : sizeT Go.Proofs.Try.prog 281 = some 0 := by kernel_rfl
theorem t281_by : bytesT Go.Proofs.Try.prog 281 = some 0 := by kernel_rfl
theorem t281_z : zav Go.Proofs.Try.prog 281 = some (List.replicate 0 (.nilp)) := by kernel_rfl
theorem t281_zv : zval Go.Proofs.Try.prog 281 = some (.agg (List.replicate 0 (.nilp))) := by kernel_rfl
theorem t282_sz : sizeT Go.Proofs.Try.prog 282 = some 0 := by kernel_rfl
theorem t282_z : zav Go.Proofs.Try.prog 282 = some ((List.replicate 0 (.nilp))) := by kernel_rfl
theorem t282_zv : zval Go.Proofs.Try.prog 282 = some (.agg ((List.replicate 0 (.nilp)))) := by kernel_rfl
theorem t282_f0 : fieldT Go.Proofs.Try.prog 282 0 = some (0, 281) := by kernel_rfl
theorem t282_pl : placesT Go.Proofs.Try.prog 282 = some [(0, 0)] := by kernel_rfl
theorem t283_sz : sizeT Go.Proofs.Try.prog 283 = some 0 := by kernel_rfl
theorem t283_z : zav Go.Proofs.Try.prog 283 = some ((List.replicate 0 (.nilp))) := by kernel_rfl
theorem t283_zv : zval Go.Proofs.Try.prog 283 = some (.agg ((List.replicate 0 (.nilp)))) := by kernel_rfl
theorem t283_f0 : fieldT Go.Proofs.Try.prog 283 0 = some (0, 281) := by kernel_rfl
theorem t283_pl : placesT Go.Proofs.Try.prog 283 = some [(0, 0)] := by kernel_rfl
theorem t284_sz : sizeT Go.Proofs.Try.prog 284 = some 1 := by kernel_rfl
theorem t284_by : bytesT Go.Proofs.Try.prog 284 = some 1 := by kernel_rfl
theorem t284_z : zav Go.Proofs.Try.prog 284 = some [.int .u8 0] := by kernel_rfl
theorem t284_d : dflt Go.Proofs.Try.prog 284 = .int .u8 0 := by kernel_rfl
theorem t284_zv : zval Go.Proofs.Try.prog 284 = some (.int .u8 0) := by kernel_rfl
theorem t285_sz : sizeT Go.Proofs.Try.prog 285 = some 1 := by kernel_rfl
theorem t285_by : bytesT Go.Proofs.Try.prog 285 = some 1 := by kernel_rfl
theorem t285_z : zav Go.Proofs.Try.prog 285 = some [.int .u8 0] := by kernel_rfl
theorem t285_d : dflt Go.Proofs.Try.prog 285 = .int .u8 0 := by kernel_rfl
theorem t285_zv : zval Go.Proofs.Try.prog 285 = some (.int .u8 0) := by kernel_rfl
theorem t286_sz : sizeT Go.Proofs.Try.prog 286 = some 1 := by kernel_rfl
theorem t286_by : bytesT Go.Proofs.Try.prog 286 = some 8 := by kernel_rfl
theorem t286_z : zav Go.Proofs.Try.prog 286 = some [.nilf] := by kernel_rfl
theorem t286_d : dflt Go.Proofs.Try.prog 286 = .nilf := by kernel_rfl
theorem t286_zv : zval Go.Proofs.Try.prog 286 = some (.nilf) := by kernel_rfl
theorem t287_sz : sizeT Go.Proofs.Try.prog 287 = some 1 := by kernel_rfl
theorem t287_by : bytesT Go.Proofs.Try.prog 287 = some 8 := by kernel_rfl
theorem t287_z : zav Go.Proofs.Try.prog 287 = some [.nilp] := by kernel_rfl
theorem t287_d : dflt Go.Proofs.Try.prog 287 = .nilp := by kernel_rfl
theorem t287_zv : zval Go.Proofs.Try.prog 287 = some (.nilp) := by kernel_rfl
theorem t288_sz : sizeT Go.Proofs.Try.prog 288 = some 1 := by kernel_rfl
theorem t288_by : bytesT Go.Proofs.Try.prog 288 = some 4 := by kernel_rfl
theorem t288_z : zav Go.Proofs.Try.prog 288 = some [.int .i32 0] := by kernel_rfl
theorem t288_d : dflt Go.Proofs.Try.prog 288 = .int .i32 0 := by kernel_rfl
theorem t288_zv : zval Go.Proofs.Try.prog 288 = some (.int .i32 0) := by kernel_rfl
theorem t289_sz : sizeT Go.Proofs.Try.prog 289 = some 1 := by kernel_rfl
theorem t289_by : bytesT Go.Proofs.Try.prog 289 = some 4 := by kernel_rfl
theorem t289_z : zav Go.Proofs.Try.prog 289 = some [.int .i32 0] := by kernel_rfl
theorem t289_d : dflt Go.Proofs.Try.prog 289 = .int .i32 0 := by kernel_rfl
theorem t289_zv : zval Go.Proofs.Try.prog 289 = some (.int .i32 0) := by kernel_rfl
theorem t290_sz : sizeT Go.Proofs.Try.prog 290 = some 11 := by kernel_rfl
theorem t290_z : zav Go.Proofs.Try.prog 290 = some [.int .u64 0, .int .u64 0, .int .u32 0, .int .u8 0, .int .u8 0, .int .u8 0, .int .u8 0, .nilf, .nilp, .int .i32 0, .int .i32 0] := by kernel_rfl
theorem t290_zv : zval Go.Proofs.Try.prog 290 = some (.agg [.int .u64 0, .int .u64 0, .int .u32 0, .int .u8 0, .int .u8 0, .int .u8 0, .int .u8 0, .nilf, .nilp, .int .i32 0, .int .i32 0]) := by kernel_rfl
theorem t290_f0 : fieldT Go.Proofs.Try.prog 290 0 = some (0, 12) := by kernel_rfl
theorem t290_f1 : fieldT Go.Proofs.Try.prog 290 1 = some (1, 12) := by kernel_rfl
theorem t290_f2 : fieldT Go.Proofs.Try.prog 290 2 = some (2, 108) := by kernel_rfl
theorem t290_f3 : fieldT Go.Proofs.Try.prog 290 3 = some (3, 284) := by kernel_rfl
theorem t290_f4 : fieldT Go.Proofs.Try.prog 290 4 = some (4, 5) := by kernel_rfl
theorem t290_f5 : fieldT Go.Proofs.Try.prog 290 5 = some (5, 5) := by kernel_rfl
theorem t290_f6 : fieldT Go.Proofs.Try.prog 290 6 = some (6, 285) := by kernel_rfl
theorem t290_f7 : fieldT Go.Proofs.Try.prog 290 7 = some (7, 286) := by kernel_rfl
theorem t290_f8 : fieldT Go.Proofs.Try.prog 290 8 = some (8, 287) := by kernel_rfl
theorem t290_f9 : fieldT Go.Proofs.Try.prog 290 9 = some (9, 288) := by kernel_rfl
theorem t290_f10 : fieldT Go.Proofs.Try.prog 290 10 = some (10, 289) := by kernel_rfl
theorem t290_pl : placesT Go.Proofs.Try.prog 290 = some [(0, 1), (1, 1), (2, 1), (3, 1), (4, 1), (5, 1), (6, 1), (7, 1), (8, 1), (9, 1), (10, 1)] := by kernel_rfl
theorem t291_sz : sizeT Go.Proofs.Try.prog 291 = some 11 := by kernel_rfl
theorem t291_z : zav Go.Proofs.Try.prog 291 = some [.int .u64 0, .int .u64 0, .int .u32 0, .int .u8 0, .int .u8 0, .int .u8 0, .int .u8 0, .nilf, .nilp, .int .i32 0, .int .i32 0] := by kernel_rfl
theorem t291_zv : zval Go.Proofs.Try.prog 291 = some (.agg [.int .u64 0, .int .u64 0, .int .u32 0, .int .u8 0, .int .u8 0, .int .u8 0, .int .u8 0, .nilf, .nilp, .int .i32 0, .int .i32 0]) := by kernel_rfl
theorem t291_f0 : fieldT Go.Proofs.Try.prog 291 0 = some (0, 12) := by kernel_rfl
theorem t291_f1 : fieldT Go.Proofs.Try.prog 291 1 = some (1, 12) := by kernel_rfl
theorem t291_f2 : fieldT Go.Proofs.Try.prog 291 2 = some (2, 108) := by kernel_rfl
theorem t291_f3 : fieldT Go.Proofs.Try.prog 291 3 = some (3, 284) := by kernel_rfl
theorem t291_f4 : fieldT Go.Proofs.Try.prog 291 4 = some (4, 5) := by kernel_rfl
theorem t291_f5 : fieldT Go.Proofs.Try.prog 291 5 = some (5, 5) := by kernel_rfl
theorem t291_f6 : fieldT Go.Proofs.Try.prog 291 6 = some (6, 285) := by kernel_rfl
theorem t291_f7 : fieldT Go.Proofs.Try.prog 291 7 = some (7, 286) := by kernel_rfl
theorem t291_f8 : fieldT Go.Proofs.Try.prog 291 8 = some (8, 287) := by kernel_rfl
theorem t291_f9 : fieldT Go.Proofs.Try.prog 291 9 = some (9, 288) := by kernel_rfl
theorem t291_f10 : fieldT Go.Proofs.Try.prog 291 10 = some (10, 289) := by kernel_rfl
theorem t291_pl : placesT Go.Proofs.Try.prog 291 = some [(0, 1), (1, 1), (2, 1), (3, 1), (4, 1), (5, 1), (6, 1), (7, 1), (8, 1), (9, 1), (10, 1)] := by kernel_rfl
theorem t293_sz : sizeT Go.Proofs.Try.prog 293 = some 2 := by kernel_rfl
theorem t293_z : zav Go.Proofs.Try.prog 293 = some [.int .i64 0, .int .u32 0] := by kernel_rfl
theorem t293_zv : zval Go.Proofs.Try.prog 293 = some (.agg [.int .i64 0, .int .u32 0]) := by kernel_rfl
theorem t293_f0 : fieldT Go.Proofs.Try.prog 293 0 = some (0, 3) := by kernel_rfl
theorem t293_f1 : fieldT Go.Proofs.Try.prog 293 1 = some (1, 108) := by kernel_rfl
theorem t293_pl : placesT Go.Proofs.Try.prog 293 = some [(0, 1), (1, 1)] := by kernel_rfl
theorem t294_sz : sizeT Go.Proofs.Try.prog 294 = some 2 := by kernel_rfl
theorem t294_z : zav Go.Proofs.Try.prog 294 = some [.int .i64 0, .int .u32 0] := by kernel_rfl
theorem t294_zv : zval Go.Proofs.Try.prog 294 = some (.agg [.int .i64 0, .int .u32 0]) := by kernel_rfl
theorem t294_f0 : fieldT Go.Proofs.Try.prog 294 0 = some (0, 3) := by kernel_rfl
theorem t294_f1 : fieldT Go.Proofs.Try.prog 294 1 = some (1, 108) := by kernel_rfl
theorem t294_pl : placesT Go.Proofs.Try.prog 294 = some [(0, 1), (1, 1)] := by kernel_rfl
theorem en3 : enters Go.Proofs.Try.prog 3 = true := by kernel_rfl
theorem en4 : enters Go.Proofs.Try.prog 4 = true := by kernel_rfl
theorem en5 : enters Go.Proofs.Try.prog 5 = true := by kernel_rfl
theorem en6 : enters Go.Proofs.Try.prog 6 = true := by kernel_rfl
theorem en7 : enters Go.Proofs.Try.prog 7 = true := by kernel_rfl
theorem en8 : enters Go.Proofs.Try.prog 8 = true := by kernel_rfl
theorem en9 : enters Go.Proofs.Try.prog 9 = true := by kernel_rfl
theorem en10 : enters Go.Proofs.Try.prog 10 = true := by kernel_rfl
theorem en11 : enters Go.Proofs.Try.prog 11 = true := by kernel_rfl
theorem en12 : enters Go.Proofs.Try.prog 12 = true := by kernel_rfl
theorem en13 : enters Go.Proofs.Try.prog 13 = true := by kernel_rfl
theorem en14 : enters Go.Proofs.Try.prog 14 = true := by kernel_rfl
theorem en15 : enters Go.Proofs.Try.prog 15 = true := by kernel_rfl
theorem en16 : enters Go.Proofs.Try.prog 16 = true := by kernel_rfl
theorem en17 : enters Go.Proofs.Try.prog 17 = true := by kernel_rfl
theorem en18 : enters Go.Proofs.Try.prog 18 = true := by kernel_rfl
theorem en19 : enters Go.Proofs.Try.prog 19 = true := by kernel_rfl
theorem en20 : enters Go.Proofs.Try.prog 20 = true := by kernel_rfl
theorem en21 : enters Go.Proofs.Try.prog 21 = true := by kernel_rfl
theorem en22 : enters Go.Proofs.Try.prog 22 = true := by kernel_rfl
theorem en23 : enters Go.Proofs.Try.prog 23 = true := by kernel_rfl
theorem en24 : enters Go.Proofs.Try.prog 24 = true := by kernel_rfl
theorem en25 : enters Go.Proofs.Try.prog 25 = true := by kernel_rfl
theorem en26 : enters Go.Proofs.Try.prog 26 = true := by kernel_rfl
theorem en27 : enters Go.Proofs.Try.prog 27 = true := by kernel_rfl
theorem en28 : enters Go.Proofs.Try.prog 28 = true := by kernel_rfl
theorem en29 : enters Go.Proofs.Try.prog 29 = true := by kernel_rfl
theorem en30 : enters Go.Proofs.Try.prog 30 = true := by kernel_rfl
theorem en31 : enters Go.Proofs.Try.prog 31 = true := by kernel_rfl
theorem en32 : enters Go.Proofs.Try.prog 32 = true := by kernel_rfl
theorem en33 : enters Go.Proofs.Try.prog 33 = true := by kernel_rfl
theorem en34 : enters Go.Proofs.Try.prog 34 = true := by kernel_rfl
theorem en35 : enters Go.Proofs.Try.prog 35 = true := by kernel_rfl
theorem en36 : enters Go.Proofs.Try.prog 36 = true := by kernel_rfl
theorem en37 : enters Go.Proofs.Try.prog 37 = true := by kernel_rfl
theorem en38 : enters Go.Proofs.Try.prog 38 = true := by kernel_rfl
theorem en39 : enters Go.Proofs.Try.prog 39 = true := by kernel_rfl
theorem en40 : enters Go.Proofs.Try.prog 40 = true := by kernel_rfl
theorem en41 : enters Go.Proofs.Try.prog 41 = true := by kernel_rfl
theorem en42 : enters Go.Proofs.Try.prog 42 = true := by kernel_rfl
theorem en43 : enters Go.Proofs.Try.prog 43 = true := by kernel_rfl
theorem en44 : enters Go.Proofs.Try.prog 44 = true := by kernel_rfl
theorem en45 : enters Go.Proofs.Try.prog 45 = true := by kernel_rfl
theorem en46 : enters Go.Proofs.Try.prog 46 = true := by kernel_rfl
theorem en47 : enters Go.Proofs.Try.prog 47 = true := by kernel_rfl
theorem en48 : enters Go.Proofs.Try.prog 48 = true := by kernel_rfl
theorem en49 : enters Go.Proofs.Try.prog 49 = true := by kernel_rfl
theorem en50 : enters Go.Proofs.Try.prog 50 = true := by kernel_rfl
theorem en51 : enters Go.Proofs.Try.prog 51 = true := by kernel_rfl
theorem en52 : enters Go.Proofs.Try.prog 52 = true := by kernel_rfl
theorem en53 : enters Go.Proofs.Try.prog 53 = true := by kernel_rfl
theorem en54 : enters Go.Proofs.Try.prog 54 = true := by kernel_rfl
theorem en55 : enters Go.Proofs.Try.prog 55 = true := by kernel_rfl
theorem en56 : enters Go.Proofs.Try.prog 56 = true := by kernel_rfl
theorem en57 : enters Go.Proofs.Try.prog 57 = true := by kernel_rfl
theorem en58 : enters Go.Proofs.Try.prog 58 = true := by kernel_rfl
theorem en59 : enters Go.Proofs.Try.prog 59 = true := by kernel_rfl
theorem en60 : enters Go.Proofs.Try.prog 60 = true := by kernel_rfl
theorem en61 : enters Go.Proofs.Try.prog 61 = true := by kernel_rfl
theorem en62 : enters Go.Proofs.Try.prog 62 = true := by kernel_rfl
theorem en63 : enters Go.Proofs.Try.prog 63 = true := by kernel_rfl
theorem en64 : enters Go.Proofs.Try.prog 64 = true := by kernel_rfl
theorem en65 : enters Go.Proofs.Try.prog 65 = true := by kernel_rfl
theorem en66 : enters Go.Proofs.Try.prog 66 = true := by kernel_rfl
theorem en67 : enters Go.Proofs.Try.prog 67 = true := by kernel_rfl
theorem en68 : enters Go.Proofs.Try.prog 68 = true := by kernel_rfl
theorem en69 : enters Go.Proofs.Try.prog 69 = true := by kernel_rfl
theorem en70 : enters Go.Proofs.Try.prog 70 = true := by kernel_rfl
theorem en71 : enters Go.Proofs.Try.prog 71 = true := by kernel_rfl
theorem en72 : enters Go.Proofs.Try.prog 72 = true := by kernel_rfl
theorem en73 : enters Go.Proofs.Try.prog 73 = true := by kernel_rfl
theorem en74 : enters Go.Proofs.Try.prog 74 = true := by kernel_rfl
theorem en75 : enters Go.Proofs.Try.prog 75 = true := by kernel_rfl
theorem en76 : enters Go.Proofs.Try.prog 76 = true := by kernel_rfl
theorem en77 : enters Go.Proofs.Try.prog 77 = true := by kernel_rfl
theorem en78 : enters Go.Proofs.Try.prog 78 = true := by kernel_rfl
theorem en79 : enters Go.Proofs.Try.prog 79 = true := by kernel_rfl
theorem en80 : enters Go.Proofs.Try.prog 80 = true := by kernel_rfl
theorem en81 : enters Go.Proofs.Try.prog 81 = true := by kernel_rfl
theorem en82 : enters Go.Proofs.Try.prog 82 = true := by kernel_rfl
theorem en83 : enters Go.Proofs.Try.prog 83 = true := by kernel_rfl
theorem en84 : enters Go.Proofs.Try.prog 84 = true := by kernel_rfl
theorem en85 : enters Go.Proofs.Try.prog 85 = true := by kernel_rfl
theorem en86 : enters Go.Proofs.Try.prog 86 = true := by kernel_rfl
theorem en87 : enters Go.Proofs.Try.prog 87 = true := by kernel_rfl
theorem en88 : enters Go.Proofs.Try.prog 88 = true := by kernel_rfl
theorem en89 : enters Go.Proofs.Try.prog 89 = true := by kernel_rfl
theorem en90 : enters Go.Proofs.Try.prog 90 = true := by kernel_rfl
theorem en91 : enters Go.Proofs.Try.prog 91 = true := by kernel_rfl
theorem en92 : enters Go.Proofs.Try.prog 92 = true := by kernel_rfl
theorem en93 : enters Go.Proofs.Try.prog 93 = true := by kernel_rfl
theorem en94 : enters Go.Proofs.Try.prog 94 = true := by kernel_rfl
theorem en95 : enters Go.Proofs.Try.prog 95 = true := by kernel_rfl
theorem en96 : enters Go.Proofs.Try.prog 96 = true := by kernel_rfl
theorem en97 : enters Go.Proofs.Try.prog 97 = true := by kernel_rfl
theorem en98 : enters Go.Proofs.Try.prog 98 = true := by kernel_rfl
theorem en99 : enters Go.Proofs.Try.prog 99 = true := by kernel_rfl
theorem en100 : enters Go.Proofs.Try.prog 100 = true := by kernel_rfl
theorem en101 : enters Go.Proofs.Try.prog 101 = true := by kernel_rfl
theorem en102 : enters Go.Proofs.Try.prog 102 = true := by kernel_rfl
theorem en103 : enters Go.Proofs.Try.prog 103 = true := by kernel_rfl
theorem en104 : enters Go.Proofs.Try.prog 104 = true := by kernel_rfl
theorem en105 : enters Go.Proofs.Try.prog 105 = true := by kernel_rfl
theorem en106 : enters Go.Proofs.Try.prog 106 = true := by kernel_rfl
theorem en107 : enters Go.Proofs.Try.prog 107 = true := by kernel_rfl
theorem en108 : enters Go.Proofs.Try.prog 108 = true := by kernel_rfl
theorem en109 : enters Go.Proofs.Try.prog 109 = true := by kernel_rfl
theorem en110 : enters Go.Proofs.Try.prog 110 = true := by kernel_rfl
theorem en111 : enters Go.Proofs.Try.prog 111 = true := by kernel_rfl
theorem en112 : enters Go.Proofs.Try.prog 112 = true := by kernel_rfl
theorem en113 : enters Go.Proofs.Try.prog 113 = true := by kernel_rfl
theorem en114 : enters Go.Proofs.Try.prog 114 = true := by kernel_rfl
theorem en115 : enters Go.Proofs.Try.prog 115 = true := by kernel_rfl
theorem en116 : enters Go.Proofs.Try.prog 116 = true := by kernel_rfl
theorem en117 : enters Go.Proofs.Try.prog 117 = true := by kernel_rfl
theorem en118 : enters Go.Proofs.Try.prog 118 = true := by kernel_rfl
theorem en119 : enters Go.Proofs.Try.prog 119 = true := by kernel_rfl
theorem en120 : enters Go.Proofs.Try.prog 120 = true := by kernel_rfl
theorem en121 : enters Go.Proofs.Try.prog 121 = true := by kernel_rfl
theorem en122 : enters Go.Proofs.Try.prog 122 = true := by kernel_rfl
theorem en123 : enters Go.Proofs.Try.prog 123 = true := by kernel_rfl
theorem en124 : enters Go.Proofs.Try.prog 124 = true := by kernel_rfl
theorem en125 : enters Go.Proofs.Try.prog 125 = true := by kernel_rfl
theorem en126 : enters Go.Proofs.Try.prog 126 = true := by kernel_rfl
theorem en127 : enters Go.Proofs.Try.prog 127 = true := by kernel_rfl
theorem en128 : enters Go.Proofs.Try.prog 128 = true := by kernel_rfl
theorem en129 : enters Go.Proofs.Try.prog 129 = true := by kernel_rfl
theorem en130 : enters Go.Proofs.Try.prog 130 = true := by kernel_rfl
theorem en131 : enters Go.Proofs.Try.prog 131 = true := by kernel_rfl
theorem en132 : enters Go.Proofs.Try.prog 132 = true := by kernel_rfl
theorem en133 : enters Go.Proofs.Try.prog 133 = true := by kernel_rfl
theorem en134 : enters Go.Proofs.Try.prog 134 = true := by kernel_rfl
theorem en135 : enters Go.Proofs.Try.prog 135 = true := by kernel_rfl
theorem en136 : enters Go.Proofs.Try.prog 136 = true := by kernel_rfl
theorem en137 : enters Go.Proofs.Try.prog 137 = true := by kernel_rfl
theorem en138 : enters Go.Proofs.Try.prog 138 = true := by kernel_rfl
theorem en139 : enters Go.Proofs.Try.prog 139 = true := by kernel_rfl
theorem en140 : enters Go.Proofs.Try.prog 140 = true := by kernel_rfl
theorem en141 : enters Go.Proofs.Try.prog 141 = true := by kernel_rfl
theorem en142 : enters Go.Proofs.Try.prog 142 = true := by kernel_rfl
theorem en143 : enters Go.Proofs.Try.prog 143 = true := by kernel_rfl
theorem en144 : enters Go.Proofs.Try.prog 144 = true := by kernel_rfl
theorem en145 : enters Go.Proofs.Try.prog 145 = true := by kernel_rfl
theorem en146 : enters Go.Proofs.Try.prog 146 = true := by kernel_rfl
theorem en147 : enters Go.Proofs.Try.prog 147 = true := by kernel_rfl
theorem en148 : enters Go.Proofs.Try.prog 148 = true := by kernel_rfl
theorem en149 : enters Go.Proofs.Try.prog 149 = true := by kernel_rfl
theorem en150 : enters Go.Proofs.Try.prog 150 = true := by kernel_rfl
theorem en151 : enters Go.Proofs.Try.prog 151 = true := by kernel_rfl
theorem en152 : enters Go.Proofs.Try.prog 152 = true := by kernel_rfl
theorem en153 : enters Go.Proofs.Try.prog 153 = true := by kernel_rfl
theorem en154 : enters Go.Proofs.Try.prog 154 = true := by kernel_rfl
theorem en155 : enters Go.Proofs.Try.prog 155 = true := by kernel_rfl
theorem en156 : enters Go.Proofs.Try.prog 156 = true := by kernel_rfl
theorem en157 : enters Go.Proofs.Try.prog 157 = true := by kernel_rfl
theorem en158 : enters Go.Proofs.Try.prog 158 = true := by kernel_rfl
theorem en159 : enters Go.Proofs.Try.prog 159 = true := by kernel_rfl
theorem en160 : enters Go.Proofs.Try.prog 160 = true := by kernel_rfl
theorem en161 : enters Go.Proofs.Try.prog 161 = true := by kernel_rfl
theorem en162 : enters Go.Proofs.Try.prog 162 = true := by kernel_rfl
theorem en163 : enters Go.Proofs.Try.prog 163 = true := by kernel_rfl
theorem en164 : enters Go.Proofs.Try.prog 164 = true := by kernel_rfl
theorem en165 : enters Go.Proofs.Try.prog 165 = true := by kernel_rfl
theorem en166 : enters Go.Proofs.Try.prog 166 = true := by kernel_rfl
theorem en167 : enters Go.Proofs.Try.prog 167 = true := by kernel_rfl
theorem en168 : enters Go.Proofs.Try.prog 168 = true := by kernel_rfl
theorem en169 : enters Go.Proofs.Try.prog 169 = true := by kernel_rfl
theorem en170 : enters Go.Proofs.Try.prog 170 = true := by kernel_rfl
theorem en171 : enters Go.Proofs.Try.prog 171 = true := by kernel_rfl
theorem en172 : enters Go.Proofs.Try.prog 172 = true := by kernel_rfl
theorem en173 : enters Go.Proofs.Try.prog 173 = true := by kernel_rfl
theorem en174 : enters Go.Proofs.Try.prog 174 = true := by kernel_rfl
theorem en175 : enters Go.Proofs.Try.prog 175 = true := by kernel_rfl
theorem en176 : enters Go.Proofs.Try.prog 176 = true := by kernel_rfl
theorem en177 : enters Go.Proofs.Try.prog 177 = true := by kernel_rfl
theorem en178 : enters Go.Proofs.Try.prog 178 = true := by kernel_rfl
theorem en179 : enters Go.Proofs.Try.prog 179 = true := by kernel_rfl
theorem en180 : enters Go.Proofs.Try.prog 180 = true := by kernel_rfl
theorem en181 : enters Go.Proofs.Try.prog 181 = true := by kernel_rfl
theorem en182 : enters Go.Proofs.Try.prog 182 = true := by kernel_rfl
theorem en183 : enters Go.Proofs.Try.prog 183 = true := by kernel_rfl
theorem en184 : enters Go.Proofs.Try.prog 184 = true := by kernel_rfl
theorem en185 : enters Go.Proofs.Try.prog 185 = true := by kernel_rfl
theorem en186 : enters Go.Proofs.Try.prog 186 = true := by kernel_rfl
theorem en187 : enters Go.Proofs.Try.prog 187 = true := by kernel_rfl
theorem en188 : enters Go.Proofs.Try.prog 188 = true := by kernel_rfl
theorem en189 : enters Go.Proofs.Try.prog 189 = true := by kernel_rfl
theorem en190 : enters Go.Proofs.Try.prog 190 = true := by kernel_rfl
theorem en191 : enters Go.Proofs.Try.prog 191 = true := by kernel_rfl
theorem en192 : enters Go.Proofs.Try.prog 192 = true := by kernel_rfl
theorem en193 : enters Go.Proofs.Try.prog 193 = true := by kernel_rfl
theorem en194 : enters Go.Proofs.Try.prog 194 = true := by kernel_rfl
theorem en195 : enters Go.Proofs.Try.prog 195 = true := by kernel_rfl
theorem en196 : enters Go.Proofs.Try.prog 196 = true := by kernel_rfl
theorem en197 : enters Go.Proofs.Try.prog 197 = true := by kernel_rfl
theorem en198 : enters Go.Proofs.Try.prog 198 = true := by kernel_rfl
theorem en199 : enters Go.Proofs.Try.prog 199 = true := by kernel_rfl
theorem en200 : enters Go.Proofs.Try.prog 200 = true := by kernel_rfl
theorem en201 : enters Go.Proofs.Try.prog 201 = true := by kernel_rfl
theorem en202 : enters Go.Proofs.Try.prog 202 = true := by kernel_rfl
theorem en203 : enters Go.Proofs.Try.prog 203 = true := by kernel_rfl
theorem en204 : enters Go.Proofs.Try.prog 204 = true := by kernel_rfl
theorem en205 : enters Go.Proofs.Try.prog 205 = true := by kernel_rfl
theorem en206 : enters Go.Proofs.Try.prog 206 = true := by kernel_rfl
theorem en207 : enters Go.Proofs.Try.prog 207 = true := by kernel_rfl
theorem en208 : enters Go.Proofs.Try.prog 208 = true := by kernel_rfl
theorem en209 : enters Go.Proofs.Try.prog 209 = true := by kernel_rfl
theorem en210 : enters Go.Proofs.Try.prog 210 = true := by kernel_rfl
theorem en211 : enters Go.Proofs.Try.prog 211 = true := by kernel_rfl
theorem en212 : enters Go.Proofs.Try.prog 212 = true := by kernel_rfl
theorem en213 : enters Go.Proofs.Try.prog 213 = true := by kernel_rfl
theorem en214 : enters Go.Proofs.Try.prog 214 = true := by kernel_rfl
theorem en215 : enters Go.Proofs.Try.prog 215 = true := by kernel_rfl
theorem en216 : enters Go.Proofs.Try.prog 216 = true := by kernel_rfl
theorem en217 : enters Go.Proofs.Try.prog 217 = true := by kernel_rfl
theorem en218 : enters Go.Proofs.Try.prog 218 = true := by kernel_rfl
theorem en219 : enters Go.Proofs.Try.prog 219 = true := by kernel_rfl
theorem en235 : enters Go.Proofs.Try.prog 235 = true := by kernel_rfl
theorem en236 : enters Go.Proofs.Try.prog 236 = true := by kernel_rfl
theorem en237 : enters Go.Proofs.Try.prog 237 = true := by kernel_rfl
theorem en238 : enters Go.Proofs.Try.prog 238 = true := by kernel_rfl
theorem en239 : enters Go.Proofs.Try.prog 239 = true := by kernel_rfl
theorem en240 : enters Go.Proofs.Try.prog 240 = true := by kernel_rfl
theorem en241 : enters Go.Proofs.Try.prog 241 = true := by kernel_rfl
theorem en242 : enters Go.Proofs.Try.prog 242 = true := by kernel_rfl
theorem t1 : type_of% (And.intro t1_k <| And.intro t1_a <| And.intro t1_if <| And.intro t1_fn <| And.intro t1_sz <| And.intro t1_by <| And.intro t1_z <| And.intro t1_d <| t1_zv) := And.intro t1_k <| And.intro t1_a <| And.intro t1_if <| And.intro t1_fn <| And.intro t1_sz <| And.intro t1_by <| And.intro t1_z <| And.intro t1_d <| t1_zv
theorem t2 : type_of% (And.intro t2_k <| And.intro t2_a <| And.intro t2_if <| And.intro t2_i <| And.intro t2_sz <| And.intro t2_by <| And.intro t2_z <| And.intro t2_d <| t2_zv) := And.intro t2_k <| And.intro t2_a <| And.intro t2_if <| And.intro t2_i <| And.intro t2_sz <| And.intro t2_by <| And.intro t2_z <| And.intro t2_d <| t2_zv
theorem t3 : type_of% (And.intro t3_k <| And.intro t3_a <| And.intro t3_if <| And.intro t3_i <| And.intro t3_sz <| And.intro t3_by <| And.intro t3_z <| And.intro t3_d <| t3_zv) := And.intro t3_k <| And.intro t3_a <| And.intro t3_if <| And.intro t3_i <| And.intro t3_sz <| And.intro t3_by <| And.intro t3_z <| And.intro t3_d <| t3_zv
theorem t4 : type_of% (And.intro t4_k <| And.intro t4_a <| And.intro t4_if <| And.intro t4_b <| And.intro t4_sz <| And.intro t4_by <| And.intro t4_z <| And.intro t4_d <| t4_zv) := And.intro t4_k <| And.intro t4_a <| And.intro t4_if <| And.intro t4_b <| And.intro t4_sz <| And.intro t4_by <| And.intro t4_z <| And.intro t4_d <| t4_zv
theorem t5 : type_of% (And.intro t5_k <| And.intro t5_a <| And.intro t5_if <| And.intro t5_i <| And.intro t5_sz <| And.intro t5_by <| And.intro t5_z <| And.intro t5_d <| t5_zv) := And.intro t5_k <| And.intro t5_a <| And.intro t5_if <| And.intro t5_i <| And.intro t5_sz <| And.intro t5_by <| And.intro t5_z <| And.intro t5_d <| t5_zv
theorem t6 : type_of% (And.intro t6_k <| And.intro t6_a <| And.intro t6_if <| And.intro t6_i <| And.intro t6_sz <| And.intro t6_by <| And.intro t6_z <| And.intro t6_d <| t6_zv) := And.intro t6_k <| And.intro t6_a <| And.intro t6_if <| And.intro t6_i <| And.intro t6_sz <| And.intro t6_by <| And.intro t6_z <| And.intro t6_d <| t6_zv
theorem t7 : type_of% (And.intro t7_k <| And.intro t7_a <| And.intro t7_if <| And.intro t7_sz <| And.intro t7_z <| And.intro t7_zv <| And.intro t7_f0 <| And.intro t7_f1 <| And.intro t7_f2 <| And.intro t7_f3 <| t7_pl) := And.intro t7_k <| And.intro t7_a <| And.intro t7_if <| And.intro t7_sz <| And.intro t7_z <| And.intro t7_zv <| And.intro t7_f0 <| And.intro t7_f1 <| And.intro t7_f2 <| And.intro t7_f3 <| t7_pl
theorem t8 : type_of% (And.intro t8_k <| And.intro t8_a <| And.intro t8_if <| And.intro t8_sz <| And.intro t8_z <| And.intro t8_zv <| And.intro t8_f0 <| And.intro t8_f1 <| And.intro t8_f2 <| And.intro t8_f3 <| t8_pl) := And.intro t8_k <| And.intro t8_a <| And.intro t8_if <| And.intro t8_sz <| And.intro t8_z <| And.intro t8_zv <| And.intro t8_f0 <| And.intro t8_f1 <| And.intro t8_f2 <| And.intro t8_f3 <| t8_pl
theorem t9 : type_of% (And.intro t9_k <| And.intro t9_a <| And.intro t9_if <| And.intro t9_s <| And.intro t9_sz <| And.intro t9_by <| And.intro t9_z <| And.intro t9_d <| t9_zv) := And.intro t9_k <| And.intro t9_a <| And.intro t9_if <| And.intro t9_s <| And.intro t9_sz <| And.intro t9_by <| And.intro t9_z <| And.intro t9_d <| t9_zv
theorem t10 : type_of% (And.intro t10_k <| And.intro t10_a <| And.intro t10_if <| And.intro t10_s <| And.intro t10_sz <| And.intro t10_by <| And.intro t10_z <| And.intro t10_d <| t10_zv) := And.intro t10_k <| And.intro t10_a <| And.intro t10_if <| And.intro t10_s <| And.intro t10_sz <| And.intro t10_by <| And.intro t10_z <| And.intro t10_d <| t10_zv
theorem t11 : type_of% (And.intro t11_k <| And.intro t11_a <| And.intro t11_if <| And.intro t11_s <| And.intro t11_sz <| And.intro t11_by <| And.intro t11_z <| And.intro t11_d <| t11_zv) := And.intro t11_k <| And.intro t11_a <| And.intro t11_if <| And.intro t11_s <| And.intro t11_sz <| And.intro t11_by <| And.intro t11_z <| And.intro t11_d <| t11_zv
theorem t12 : type_of% (And.intro t12_k <| And.intro t12_a <| And.intro t12_if <| And.intro t12_i <| And.intro t12_sz <| And.intro t12_by <| And.intro t12_z <| And.intro t12_d <| t12_zv) := And.intro t12_k <| And.intro t12_a <| And.intro t12_if <| And.intro t12_i <| And.intro t12_sz <| And.intro t12_by <| And.intro t12_z <| And.intro t12_d <| t12_zv
theorem t13 : type_of% (And.intro t13_k <| And.intro t13_a <| And.intro t13_if <| And.intro t13_sz <| And.intro t13_z <| And.intro t13_zv <| And.intro t13_f0 <| And.intro t13_f1 <| t13_pl) := And.intro t13_k <| And.intro t13_a <| And.intro t13_if <| And.intro t13_sz <| And.intro t13_z <| And.intro t13_zv <| And.intro t13_f0 <| And.intro t13_f1 <| t13_pl
theorem t14 : type_of% (And.intro t14_k <| And.intro t14_a <| And.intro t14_if <| And.intro t14_sz <| And.intro t14_z <| And.intro t14_zv <| And.intro t14_f0 <| And.intro t14_f1 <| t14_pl) := And.intro t14_k <| And.intro t14_a <| And.intro t14_if <| And.intro t14_sz <| And.intro t14_z <| And.intro t14_zv <| And.intro t14_f0 <| And.intro t14_f1 <| t14_pl
theorem t15 : type_of% (And.intro t15_k <| And.intro t15_a <| And.intro t15_if <| And.intro t15_p <| And.intro t15_sz <| And.intro t15_by <| And.intro t15_z <| And.intro t15_d <| t15_zv) := And.intro t15_k <| And.intro t15_a <| And.intro t15_if <| And.intro t15_p <| And.intro t15_sz <| And.intro t15_by <| And.intro t15_z <| And.intro t15_d <| t15_zv
theorem t16 : type_of% (And.intro t16_k <| And.intro t16_a <| And.intro t16_if <| And.intro t16_p <| And.intro t16_sz <| And.intro t16_by <| And.intro t16_z <| And.intro t16_d <| t16_zv) := And.intro t16_k <| And.intro t16_a <| And.intro t16_if <| And.intro t16_p <| And.intro t16_sz <| And.intro t16_by <| And.intro t16_z <| And.intro t16_d <| t16_zv
theorem t17 : type_of% (And.intro t17_k <| And.intro t17_a <| And.intro t17_if <| And.intro t17_p <| And.intro t17_sz <| And.intro t17_by <| And.intro t17_z <| And.intro t17_d <| t17_zv) := And.intro t17_k <| And.intro t17_a <| And.intro t17_if <| And.intro t17_p <| And.intro t17_sz <| And.intro t17_by <| And.intro t17_z <| And.intro t17_d <| t17_zv
theorem t20 : type_of% (And.intro t20_k <| And.intro t20_a <| And.intro t20_if <| And.intro t20_sz <| And.intro t20_by <| And.intro t20_z <| And.intro t20_d <| t20_zv) := And.intro t20_k <| And.intro t20_a <| And.intro t20_if <| And.intro t20_sz <| And.intro t20_by <| And.intro t20_z <| And.intro t20_d <| t20_zv
theorem t21 : type_of% (And.intro t21_k <| And.intro t21_a <| And.intro t21_if <| And.intro t21_i <| And.intro t21_sz <| And.intro t21_by <| And.intro t21_z <| And.intro t21_d <| t21_zv) := And.intro t21_k <| And.intro t21_a <| And.intro t21_if <| And.intro t21_i <| And.intro t21_sz <| And.intro t21_by <| And.intro t21_z <| And.intro t21_d <| t21_zv
theorem t22 : type_of% (And.intro t22_k <| And.intro t22_a <| And.intro t22_if <| And.intro t22_e <| And.intro t22_s <| And.intro t22_sz <| And.intro t22_by <| And.intro t22_z <| And.intro t22_d <| t22_zv) := And.intro t22_k <| And.intro t22_a <| And.intro t22_if <| And.intro t22_e <| And.intro t22_s <| And.intro t22_sz <| And.intro t22_by <| And.intro t22_z <| And.intro t22_d <| t22_zv
theorem t23 : type_of% (And.intro t23_k <| And.intro t23_a <| And.intro t23_if <| And.intro t23_fn <| And.intro t23_sz <| And.intro t23_by <| And.intro t23_z <| And.intro t23_d <| t23_zv) := And.intro t23_k <| And.intro t23_a <| And.intro t23_if <| And.intro t23_fn <| And.intro t23_sz <| And.intro t23_by <| And.intro t23_z <| And.intro t23_d <| t23_zv
theorem t25 : type_of% (And.intro t25_k <| And.intro t25_a <| And.intro t25_if <| And.intro t25_i <| And.intro t25_sz <| And.intro t25_by <| And.intro t25_z <| And.intro t25_d <| t25_zv) := And.intro t25_k <| And.intro t25_a <| And.intro t25_if <| And.intro t25_i <| And.intro t25_sz <| And.intro t25_by <| And.intro t25_z <| And.intro t25_d <| t25_zv
theorem t42 : type_of% (And.intro t42_k <| And.intro t42_a <| And.intro t42_if <| And.intro t42_fn <| And.intro t42_sz <| And.intro t42_by <| And.intro t42_z <| And.intro t42_d <| t42_zv) := And.intro t42_k <| And.intro t42_a <| And.intro t42_if <| And.intro t42_fn <| And.intro t42_sz <| And.intro t42_by <| And.intro t42_z <| And.intro t42_d <| t42_zv
theorem t44 : type_of% (And.intro t44_k <| And.intro t44_a <| And.intro t44_if <| And.intro t44_e <| And.intro t44_s <| And.intro t44_sz <| And.intro t44_by <| And.intro t44_z <| And.intro t44_d <| t44_zv) := And.intro t44_k <| And.intro t44_a <| And.intro t44_if <| And.intro t44_e <| And.intro t44_s <| And.intro t44_sz <| And.intro t44_by <| And.intro t44_z <| And.intro t44_d <| t44_zv
theorem t46 : type_of% (And.intro t46_k <| And.intro t46_a <| And.intro t46_if <| And.intro t46_e <| And.intro t46_s <| And.intro t46_sz <| And.intro t46_by <| And.intro t46_z <| And.intro t46_d <| t46_zv) := And.intro t46_k <| And.intro t46_a <| And.intro t46_if <| And.intro t46_e <| And.intro t46_s <| And.intro t46_sz <| And.intro t46_by <| And.intro t46_z <| And.intro t46_d <| t46_zv
theorem t49 : type_of% (And.intro t49_k <| And.intro t49_a <| And.intro t49_if <| And.intro t49_ea <| And.intro t49_sz <| And.intro t49_z <| And.intro t49_zv <| And.intro t49_f0 <| And.intro t49_f1 <| t49_pl) := And.intro t49_k <| And.intro t49_a <| And.intro t49_if <| And.intro t49_ea <| And.intro t49_sz <| And.intro t49_z <| And.intro t49_zv <| And.intro t49_f0 <| And.intro t49_f1 <| t49_pl
theorem t50 : type_of% (And.intro t50_k <| And.intro t50_a <| And.intro t50_if <| And.intro t50_ea <| And.intro t50_sz <| And.intro t50_z <| And.intro t50_zv <| And.intro t50_f0 <| And.intro t50_f1 <| t50_pl) := And.intro t50_k <| And.intro t50_a <| And.intro t50_if <| And.intro t50_ea <| And.intro t50_sz <| And.intro t50_z <| And.intro t50_zv <| And.intro t50_f0 <| And.intro t50_f1 <| t50_pl
theorem t58 : type_of% (And.intro t58_k <| And.intro t58_a <| And.intro t58_if <| And.intro t58_e <| And.intro t58_s <| And.intro t58_sz <| And.intro t58_by <| And.intro t58_z <| And.intro t58_d <| t58_zv) := And.intro t58_k <| And.intro t58_a <| And.intro t58_if <| And.intro t58_e <| And.intro t58_s <| And.intro t58_sz <| And.intro t58_by <| And.intro t58_z <| And.intro t58_d <| t58_zv
theorem t59 : type_of% (And.intro t59_k <| And.intro t59_a <| And.intro t59_if <| And.intro t59_p <| And.intro t59_sz <| And.intro t59_by <| And.intro t59_z <| And.intro t59_d <| t59_zv) := And.intro t59_k <| And.intro t59_a <| And.intro t59_if <| And.intro t59_p <| And.intro t59_sz <| And.intro t59_by <| And.intro t59_z <| And.intro t59_d <| t59_zv
theorem t63 : type_of% (And.intro t63_k <| And.intro t63_a <| And.intro t63_if <| And.intro t63_p <| And.intro t63_sz <| And.intro t63_by <| And.intro t63_z <| And.intro t63_d <| t63_zv) := And.intro t63_k <| And.intro t63_a <| And.intro t63_if <| And.intro t63_p <| And.intro t63_sz <| And.intro t63_by <| And.intro t63_z <| And.intro t63_d <| t63_zv
theorem t65 : type_of% (And.intro t65_k <| And.intro t65_a <| And.intro t65_if <| And.intro t65_p <| And.intro t65_sz <| And.intro t65_by <| And.intro t65_z <| And.intro t65_d <| t65_zv) := And.intro t65_k <| And.intro t65_a <| And.intro t65_if <| And.intro t65_p <| And.intro t65_sz <| And.intro t65_by <| And.intro t65_z <| And.intro t65_d <| t65_zv
theorem t67 : type_of% (And.intro t67_k <| And.intro t67_a <| And.intro t67_if <| And.intro t67_p <| And.intro t67_sz <| And.intro t67_by <| And.intro t67_z <| And.intro t67_d <| t67_zv) := And.intro t67_k <| And.intro t67_a <| And.intro t67_if <| And.intro t67_p <| And.intro t67_sz <| And.intro t67_by <| And.intro t67_z <| And.intro t67_d <| t67_zv
theorem t70 : type_of% (And.intro t70_k <| And.intro t70_a <| And.intro t70_if <| And.intro t70_ea <| And.intro t70_sz <| And.intro t70_z <| And.intro t70_zv <| And.intro t70_f0 <| And.intro t70_f1 <| And.intro t70_f2 <| And.intro t70_f3 <| And.intro t70_f4 <| t70_pl) := And.intro t70_k <| And.intro t70_a <| And.intro t70_if <| And.intro t70_ea <| And.intro t70_sz <| And.intro t70_z <| And.intro t70_zv <| And.intro t70_f0 <| And.intro t70_f1 <| And.intro t70_f2 <| And.intro t70_f3 <| And.intro t70_f4 <| t70_pl
theorem t71 : type_of% (And.intro t71_k <| And.intro t71_a <| And.intro t71_if <| And.intro t71_ea <| And.intro t71_sz <| And.intro t71_z <| And.intro t71_zv <| And.intro t71_f0 <| And.intro t71_f1 <| And.intro t71_f2 <| And.intro t71_f3 <| And.intro t71_f4 <| t71_pl) := And.intro t71_k <| And.intro t71_a <| And.intro t71_if <| And.intro t71_ea <| And.intro t71_sz <| And.intro t71_z <| And.intro t71_zv <| And.intro t71_f0 <| And.intro t71_f1 <| And.intro t71_f2 <| And.intro t71_f3 <| And.intro t71_f4 <| t71_pl
theorem t77 : type_of% (And.intro t77_k <| And.intro t77_a <| And.intro t77_if <| And.intro t77_e <| And.intro t77_s <| And.intro t77_sz <| And.intro t77_by <| And.intro t77_z <| And.intro t77_d <| t77_zv) := And.intro t77_k <| And.intro t77_a <| And.intro t77_if <| And.intro t77_e <| And.intro t77_s <| And.intro t77_sz <| And.intro t77_by <| And.intro t77_z <| And.intro t77_d <| t77_zv
theorem t78 : type_of% (And.intro t78_k <| And.intro t78_a <| And.intro t78_if <| And.intro t78_e <| And.intro t78_s <| And.intro t78_sz <| And.intro t78_by <| And.intro t78_z <| And.intro t78_d <| t78_zv) := And.intro t78_k <| And.intro t78_a <| And.intro t78_if <| And.intro t78_e <| And.intro t78_s <| And.intro t78_sz <| And.intro t78_by <| And.intro t78_z <| And.intro t78_d <| t78_zv
theorem t79 : type_of% (And.intro t79_k <| And.intro t79_a <| And.intro t79_if <| And.intro t79_sz <| And.intro t79_z <| And.intro t79_zv <| And.intro t79_f0 <| And.intro t79_f1 <| And.intro t79_f2 <| And.intro t79_f3 <| And.intro t79_f4 <| And.intro t79_f5 <| t79_pl) := And.intro t79_k <| And.intro t79_a <| And.intro t79_if <| And.intro t79_sz <| And.intro t79_z <| And.intro t79_zv <| And.intro t79_f0 <| And.intro t79_f1 <| And.intro t79_f2 <| And.intro t79_f3 <| And.intro t79_f4 <| And.intro t79_f5 <| t79_pl
theorem t80 : type_of% (And.intro t80_k <| And.intro t80_a <| And.intro t80_if <| And.intro t80_sz <| And.intro t80_z <| And.intro t80_zv <| And.intro t80_f0 <| And.intro t80_f1 <| And.intro t80_f2 <| And.intro t80_f3 <| And.intro t80_f4 <| And.intro t80_f5 <| t80_pl) := And.intro t80_k <| And.intro t80_a <| And.intro t80_if <| And.intro t80_sz <| And.intro t80_z <| And.intro t80_zv <| And.intro t80_f0 <| And.intro t80_f1 <| And.intro t80_f2 <| And.intro t80_f3 <| And.intro t80_f4 <| And.intro t80_f5 <| t80_pl
theorem t82 : type_of% (And.intro t82_k <| And.intro t82_a <| And.intro t82_if <| And.intro t82_ea <| And.intro t82_ar <| And.intro t82_pl <| And.intro t82_sz <| And.intro t82_by <| And.intro t82_z <| t82_zv) := And.intro t82_k <| And.intro t82_a <| And.intro t82_if <| And.intro t82_ea <| And.intro t82_ar <| And.intro t82_pl <| And.intro t82_sz <| And.intro t82_by <| And.intro t82_z <| t82_zv
theorem t85 : type_of% (And.intro t85_k <| And.intro t85_a <| And.intro t85_if <| And.intro t85_fn <| And.intro t85_sz <| And.intro t85_by <| And.intro t85_z <| And.intro t85_d <| t85_zv) := And.intro t85_k <| And.intro t85_a <| And.intro t85_if <| And.intro t85_fn <| And.intro t85_sz <| And.intro t85_by <| And.intro t85_z <| And.intro t85_d <| t85_zv
theorem t88 : type_of% (And.intro t88_k <| And.intro t88_a <| And.intro t88_if <| And.intro t88_p <| And.intro t88_sz <| And.intro t88_by <| And.intro t88_z <| And.intro t88_d <| t88_zv) := And.intro t88_k <| And.intro t88_a <| And.intro t88_if <| And.intro t88_p <| And.intro t88_sz <| And.intro t88_by <| And.intro t88_z <| And.intro t88_d <| t88_zv
theorem t93 : type_of% (And.intro t93_k <| And.intro t93_a <| And.intro t93_if <| And.intro t93_p <| And.intro t93_sz <| And.intro t93_by <| And.intro t93_z <| And.intro t93_d <| t93_zv) := And.intro t93_k <| And.intro t93_a <| And.intro t93_if <| And.intro t93_p <| And.intro t93_sz <| And.intro t93_by <| And.intro t93_z <| And.intro t93_d <| t93_zv
theorem t96 : type_of% (And.intro t96_k <| And.intro t96_a <| And.intro t96_if <| And.intro t96_p <| And.intro t96_sz <| And.intro t96_by <| And.intro t96_z <| And.intro t96_d <| t96_zv) := And.intro t96_k <| And.intro t96_a <| And.intro t96_if <| And.intro t96_p <| And.intro t96_sz <| And.intro t96_by <| And.intro t96_z <| And.intro t96_d <| t96_zv
theorem t97 : type_of% (And.intro t97_k <| And.intro t97_a <| And.intro t97_if <| And.intro t97_sz <| And.intro t97_z <| And.intro t97_zv <| And.intro t97_f0 <| And.intro t97_f1 <| t97_pl) := And.intro t97_k <| And.intro t97_a <| And.intro t97_if <| And.intro t97_sz <| And.intro t97_z <| And.intro t97_zv <| And.intro t97_f0 <| And.intro t97_f1 <| t97_pl
theorem t98 : type_of% (And.intro t98_k <| And.intro t98_a <| And.intro t98_if <| And.intro t98_sz <| And.intro t98_z <| And.intro t98_zv <| And.intro t98_f0 <| And.intro t98_f1 <| t98_pl) := And.intro t98_k <| And.intro t98_a <| And.intro t98_if <| And.intro t98_sz <| And.intro t98_z <| And.intro t98_zv <| And.intro t98_f0 <| And.intro t98_f1 <| t98_pl
theorem t107 : type_of% (And.intro t107_k <| And.intro t107_a <| And.intro t107_if <| And.intro t107_e <| And.intro t107_s <| And.intro t107_sz <| And.intro t107_by <| And.intro t107_z <| And.intro t107_d <| t107_zv) := And.intro t107_k <| And.intro t107_a <| And.intro t107_if <| And.intro t107_e <| And.intro t107_s <| And.intro t107_sz <| And.intro t107_by <| And.intro t107_z <| And.intro t107_d <| t107_zv
theorem t108 : type_of% (And.intro t108_k <| And.intro t108_a <| And.intro t108_if <| And.intro t108_i <| And.intro t108_sz <| And.intro t108_by <| And.intro t108_z <| And.intro t108_d <| t108_zv) := And.intro t108_k <| And.intro t108_a <| And.intro t108_if <| And.intro t108_i <| And.intro t108_sz <| And.intro t108_by <| And.intro t108_z <| And.intro t108_d <| t108_zv
theorem t109 : type_of% (And.intro t109_k <| And.intro t109_a <| And.intro t109_if <| And.intro t109_sz <| And.intro t109_z <| And.intro t109_zv <| And.intro t109_f0 <| And.intro t109_f1 <| And.intro t109_f2 <| And.intro t109_f3 <| And.intro t109_f4 <| And.intro t109_f5 <| And.intro t109_f6 <| And.intro t109_f7 <| And.intro t109_f8 <| t109_pl) := And.intro t109_k <| And.intro t109_a <| And.intro t109_if <| And.intro t109_sz <| And.intro t109_z <| And.intro t109_zv <| And.intro t109_f0 <| And.intro t109_f1 <| And.intro t109_f2 <| And.intro t109_f3 <| And.intro t109_f4 <| And.intro t109_f5 <| And.intro t109_f6 <| And.intro t109_f7 <| And.intro t109_f8 <| t109_pl
theorem t110 : type_of% (And.intro t110_k <| And.intro t110_a <| And.intro t110_if <| And.intro t110_sz <| And.intro t110_z <| And.intro t110_zv <| And.intro t110_f0 <| And.intro t110_f1 <| And.intro t110_f2 <| And.intro t110_f3 <| And.intro t110_f4 <| And.intro t110_f5 <| And.intro t110_f6 <| And.intro t110_f7 <| And.intro t110_f8 <| t110_pl) := And.intro t110_k <| And.intro t110_a <| And.intro t110_if <| And.intro t110_sz <| And.intro t110_z <| And.intro t110_zv <| And.intro t110_f0 <| And.intro t110_f1 <| And.intro t110_f2 <| And.intro t110_f3 <| And.intro t110_f4 <| And.intro t110_f5 <| And.intro t110_f6 <| And.intro t110_f7 <| And.intro t110_f8 <| t110_pl
theorem t116 : type_of% (And.intro t116_k <| And.intro t116_a <| And.intro t116_if <| And.intro t116_i <| And.intro t116_sz <| And.intro t116_by <| And.intro t116_z <| And.intro t116_d <| t116_zv) := And.intro t116_k <| And.intro t116_a <| And.intro t116_if <| And.intro t116_i <| And.intro t116_sz <| And.intro t116_by <| And.intro t116_z <| And.intro t116_d <| t116_zv
theorem t117 : type_of% (And.intro t117_k <| And.intro t117_a <| And.intro t117_if <| And.intro t117_fn <| And.intro t117_sz <| And.intro t117_by <| And.intro t117_z <| And.intro t117_d <| t117_zv) := And.intro t117_k <| And.intro t117_a <| And.intro t117_if <| And.intro t117_fn <| And.intro t117_sz <| And.intro t117_by <| And.intro t117_z <| And.intro t117_d <| t117_zv
theorem t118 : type_of% (And.intro t118_k <| And.intro t118_a <| And.intro t118_if <| And.intro t118_mp <| And.intro t118_mx <| And.intro t118_sz <| And.intro t118_by <| And.intro t118_z <| And.intro t118_d <| t118_zv) := And.intro t118_k <| And.intro t118_a <| And.intro t118_if <| And.intro t118_mp <| And.intro t118_mx <| And.intro t118_sz <| And.intro t118_by <| And.intro t118_z <| And.intro t118_d <| t118_zv
theorem t123 : type_of% (And.intro t123_k <| And.intro t123_a <| And.intro t123_if <| And.intro t123_i <| And.intro t123_sz <| And.intro t123_by <| And.intro t123_z <| And.intro t123_d <| t123_zv) := And.intro t123_k <| And.intro t123_a <| And.intro t123_if <| And.intro t123_i <| And.intro t123_sz <| And.intro t123_by <| And.intro t123_z <| And.intro t123_d <| t123_zv
theorem t125 : type_of% (And.intro t125_k <| And.intro t125_a <| And.intro t125_if <| And.intro t125_fn <| And.intro t125_sz <| And.intro t125_by <| And.intro t125_z <| And.intro t125_d <| t125_zv) := And.intro t125_k <| And.intro t125_a <| And.intro t125_if <| And.intro t125_fn <| And.intro t125_sz <| And.intro t125_by <| And.intro t125_z <| And.intro t125_d <| t125_zv
theorem t126 : type_of% (And.intro t126_k <| And.intro t126_a <| And.intro t126_if <| And.intro t126_ea <| And.intro t126_sz <| And.intro t126_z <| And.intro t126_zv <| And.intro t126_f0 <| And.intro t126_f1 <| t126_pl) := And.intro t126_k <| And.intro t126_a <| And.intro t126_if <| And.intro t126_ea <| And.intro t126_sz <| And.intro t126_z <| And.intro t126_zv <| And.intro t126_f0 <| And.intro t126_f1 <| t126_pl
theorem t127 : type_of% (And.intro t127_k <| And.intro t127_a <| And.intro t127_if <| And.intro t127_p <| And.intro t127_sz <| And.intro t127_by <| And.intro t127_z <| And.intro t127_d <| t127_zv) := And.intro t127_k <| And.intro t127_a <| And.intro t127_if <| And.intro t127_p <| And.intro t127_sz <| And.intro t127_by <| And.intro t127_z <| And.intro t127_d <| t127_zv
theorem t128 : type_of% (And.intro t128_k <| And.intro t128_a <| And.intro t128_if <| And.intro t128_sz <| And.intro t128_z <| And.intro t128_zv <| And.intro t128_f0 <| And.intro t128_f1 <| And.intro t128_f2 <| t128_pl) := And.intro t128_k <| And.intro t128_a <| And.intro t128_if <| And.intro t128_sz <| And.intro t128_z <| And.intro t128_zv <| And.intro t128_f0 <| And.intro t128_f1 <| And.intro t128_f2 <| t128_pl
theorem t129 : type_of% (And.intro t129_k <| And.intro t129_a <| And.intro t129_if <| And.intro t129_sz <| And.intro t129_z <| And.intro t129_zv <| And.intro t129_f0 <| And.intro t129_f1 <| And.intro t129_f2 <| t129_pl) := And.intro t129_k <| And.intro t129_a <| And.intro t129_if <| And.intro t129_sz <| And.intro t129_z <| And.intro t129_zv <| And.intro t129_f0 <| And.intro t129_f1 <| And.intro t129_f2 <| t129_pl
theorem t135 : type_of% (And.intro t135_k <| And.intro t135_a <| And.intro t135_if <| And.intro t135_e <| And.intro t135_s <| And.intro t135_sz <| And.intro t135_by <| And.intro t135_z <| And.intro t135_d <| t135_zv) := And.intro t135_k <| And.intro t135_a <| And.intro t135_if <| And.intro t135_e <| And.intro t135_s <| And.intro t135_sz <| And.intro t135_by <| And.intro t135_z <| And.intro t135_d <| t135_zv
theorem t136 : type_of% (And.intro t136_k <| And.intro t136_a <| And.intro t136_if <| And.intro t136_i <| And.intro t136_sz <| And.intro t136_by <| And.intro t136_z <| And.intro t136_d <| t136_zv) := And.intro t136_k <| And.intro t136_a <| And.intro t136_if <| And.intro t136_i <| And.intro t136_sz <| And.intro t136_by <| And.intro t136_z <| And.intro t136_d <| t136_zv
theorem t137 : type_of% (And.intro t137_k <| And.intro t137_a <| And.intro t137_if <| And.intro t137_ea <| And.intro t137_ar <| And.intro t137_pl <| And.intro t137_sz <| And.intro t137_by <| And.intro t137_z <| t137_zv) := And.intro t137_k <| And.intro t137_a <| And.intro t137_if <| And.intro t137_ea <| And.intro t137_ar <| And.intro t137_pl <| And.intro t137_sz <| And.intro t137_by <| And.intro t137_z <| t137_zv
theorem t138 : type_of% (And.intro t138_k <| And.intro t138_a <| And.intro t138_if <| And.intro t138_ea <| And.intro t138_ar <| And.intro t138_pl <| And.intro t138_sz <| And.intro t138_by <| And.intro t138_z <| t138_zv) := And.intro t138_k <| And.intro t138_a <| And.intro t138_if <| And.intro t138_ea <| And.intro t138_ar <| And.intro t138_pl <| And.intro t138_sz <| And.intro t138_by <| And.intro t138_z <| t138_zv
theorem t139 : type_of% (And.intro t139_k <| And.intro t139_a <| And.intro t139_if <| And.intro t139_ea <| And.intro t139_ar <| And.intro t139_pl <| And.intro t139_sz <| And.intro t139_by <| And.intro t139_z <| t139_zv) := And.intro t139_k <| And.intro t139_a <| And.intro t139_if <| And.intro t139_ea <| And.intro t139_ar <| And.intro t139_pl <| And.intro t139_sz <| And.intro t139_by <| And.intro t139_z <| t139_zv
theorem t140 : type_of% (And.intro t140_k <| And.intro t140_a <| And.intro t140_if <| And.intro t140_ea <| And.intro t140_ar <| And.intro t140_pl <| And.intro t140_sz <| And.intro t140_by <| And.intro t140_z <| t140_zv) := And.intro t140_k <| And.intro t140_a <| And.intro t140_if <| And.intro t140_ea <| And.intro t140_ar <| And.intro t140_pl <| And.intro t140_sz <| And.intro t140_by <| And.intro t140_z <| t140_zv
theorem t141 : type_of% (And.intro t141_k <| And.intro t141_a <| And.intro t141_if <| And.intro t141_ea <| And.intro t141_ar <| And.intro t141_pl <| And.intro t141_sz <| And.intro t141_by <| And.intro t141_z <| t141_zv) := And.intro t141_k <| And.intro t141_a <| And.intro t141_if <| And.intro t141_ea <| And.intro t141_ar <| And.intro t141_pl <| And.intro t141_sz <| And.intro t141_by <| And.intro t141_z <| t141_zv
theorem t142 : type_of% (And.intro t142_k <| And.intro t142_a <| And.intro t142_if <| And.intro t142_ea <| And.intro t142_ar <| And.intro t142_pl <| And.intro t142_sz <| And.intro t142_by <| And.intro t142_z <| t142_zv) := And.intro t142_k <| And.intro t142_a <| And.intro t142_if <| And.intro t142_ea <| And.intro t142_ar <| And.intro t142_pl <| And.intro t142_sz <| And.intro t142_by <| And.intro t142_z <| t142_zv
theorem t143 : type_of% (And.intro t143_k <| And.intro t143_a <| And.intro t143_if <| And.intro t143_ea <| And.intro t143_ar <| And.intro t143_pl <| And.intro t143_sz <| And.intro t143_by <| And.intro t143_z <| t143_zv) := And.intro t143_k <| And.intro t143_a <| And.intro t143_if <| And.intro t143_ea <| And.intro t143_ar <| And.intro t143_pl <| And.intro t143_sz <| And.intro t143_by <| And.intro t143_z <| t143_zv
theorem t144 : type_of% (And.intro t144_k <| And.intro t144_a <| And.intro t144_if <| And.intro t144_ea <| And.intro t144_sz <| And.intro t144_z <| And.intro t144_zv <| And.intro t144_f0 <| And.intro t144_f1 <| And.intro t144_f2 <| And.intro t144_f3 <| And.intro t144_f4 <| t144_pl) := And.intro t144_k <| And.intro t144_a <| And.intro t144_if <| And.intro t144_ea <| And.intro t144_sz <| And.intro t144_z <| And.intro t144_zv <| And.intro t144_f0 <| And.intro t144_f1 <| And.intro t144_f2 <| And.intro t144_f3 <| And.intro t144_f4 <| t144_pl
theorem t145 : type_of% (And.intro t145_k <| And.intro t145_a <| And.intro t145_if <| And.intro t145_ea <| And.intro t145_sz <| And.intro t145_z <| And.intro t145_zv <| And.intro t145_f0 <| And.intro t145_f1 <| And.intro t145_f2 <| And.intro t145_f3 <| And.intro t145_f4 <| t145_pl) := And.intro t145_k <| And.intro t145_a <| And.intro t145_if <| And.intro t145_ea <| And.intro t145_sz <| And.intro t145_z <| And.intro t145_zv <| And.intro t145_f0 <| And.intro t145_f1 <| And.intro t145_f2 <| And.intro t145_f3 <| And.intro t145_f4 <| t145_pl
theorem t146 : type_of% (And.intro t146_k <| And.intro t146_a <| And.intro t146_if <| And.intro t146_ea <| And.intro t146_ar <| And.intro t146_pl <| And.intro t146_sz <| And.intro t146_by <| And.intro t146_z <| t146_zv) := And.intro t146_k <| And.intro t146_a <| And.intro t146_if <| And.intro t146_ea <| And.intro t146_ar <| And.intro t146_pl <| And.intro t146_sz <| And.intro t146_by <| And.intro t146_z <| t146_zv
theorem t147 : type_of% (And.intro t147_k <| And.intro t147_a <| And.intro t147_if <| And.intro t147_ea <| And.intro t147_ar <| And.intro t147_pl <| And.intro t147_sz <| And.intro t147_by <| And.intro t147_z <| t147_zv) := And.intro t147_k <| And.intro t147_a <| And.intro t147_if <| And.intro t147_ea <| And.intro t147_ar <| And.intro t147_pl <| And.intro t147_sz <| And.intro t147_by <| And.intro t147_z <| t147_zv
theorem t148 : type_of% (And.intro t148_k <| And.intro t148_a <| And.intro t148_if <| And.intro t148_ea <| And.intro t148_ar <| And.intro t148_pl <| And.intro t148_sz <| And.intro t148_by <| And.intro t148_z <| t148_zv) := And.intro t148_k <| And.intro t148_a <| And.intro t148_if <| And.intro t148_ea <| And.intro t148_ar <| And.intro t148_pl <| And.intro t148_sz <| And.intro t148_by <| And.intro t148_z <| t148_zv
theorem t149 : type_of% (And.intro t149_k <| And.intro t149_a <| And.intro t149_if <| And.intro t149_ea <| And.intro t149_ar <| And.intro t149_pl <| And.intro t149_sz <| And.intro t149_by <| And.intro t149_z <| t149_zv) := And.intro t149_k <| And.intro t149_a <| And.intro t149_if <| And.intro t149_ea <| And.intro t149_ar <| And.intro t149_pl <| And.intro t149_sz <| And.intro t149_by <| And.intro t149_z <| t149_zv
theorem t150 : type_of% (And.intro t150_k <| And.intro t150_a <| And.intro t150_if <| And.intro t150_sz <| And.intro t150_z <| And.intro t150_zv <| And.intro t150_f0 <| And.intro t150_f1 <| And.intro t150_f2 <| And.intro t150_f3 <| And.intro t150_f4 <| And.intro t150_f5 <| And.intro t150_f6 <| And.intro t150_f7 <| And.intro t150_f8 <| And.intro t150_f9 <| And.intro t150_f10 <| And.intro t150_f11 <| And.intro t150_f12 <| And.intro t150_f13 <| And.intro t150_f14 <| And.intro t150_f15 <| And.intro t150_f16 <| t150_pl) := And.intro t150_k <| And.intro t150_a <| And.intro t150_if <| And.intro t150_sz <| And.intro t150_z <| And.intro t150_zv <| And.intro t150_f0 <| And.intro t150_f1 <| And.intro t150_f2 <| And.intro t150_f3 <| And.intro t150_f4 <| And.intro t150_f5 <| And.intro t150_f6 <| And.intro t150_f7 <| And.intro t150_f8 <| And.intro t150_f9 <| And.intro t150_f10 <| And.intro t150_f11 <| And.intro t150_f12 <| And.intro t150_f13 <| And.intro t150_f14 <| And.intro t150_f15 <| And.intro t150_f16 <| t150_pl
theorem t151 : type_of% (And.intro t151_k <| And.intro t151_a <| And.intro t151_if <| And.intro t151_sz <| And.intro t151_z <| And.intro t151_zv <| And.intro t151_f0 <| And.intro t151_f1 <| And.intro t151_f2 <| And.intro t151_f3 <| And.intro t151_f4 <| And.intro t151_f5 <| And.intro t151_f6 <| And.intro t151_f7 <| And.intro t151_f8 <| And.intro t151_f9 <| And.intro t151_f10 <| And.intro t151_f11 <| And.intro t151_f12 <| And.intro t151_f13 <| And.intro t151_f14 <| And.intro t151_f15 <| And.intro t151_f16 <| t151_pl) := And.intro t151_k <| And.intro t151_a <| And.intro t151_if <| And.intro t151_sz <| And.intro t151_z <| And.intro t151_zv <| And.intro t151_f0 <| And.intro t151_f1 <| And.intro t151_f2 <| And.intro t151_f3 <| And.intro t151_f4 <| And.intro t151_f5 <| And.intro t151_f6 <| And.intro t151_f7 <| And.intro t151_f8 <| And.intro t151_f9 <| And.intro t151_f10 <| And.intro t151_f11 <| And.intro t151_f12 <| And.intro t151_f13 <| And.intro t151_f14 <| And.intro t151_f15 <| And.intro t151_f16 <| t151_pl
theorem t153 : type_of% (And.intro t153_k <| And.intro t153_a <| And.intro t153_if <| And.intro t153_ea <| And.intro t153_ar <| And.intro t153_pl <| And.intro t153_sz <| And.intro t153_by <| And.intro t153_z <| t153_zv) := And.intro t153_k <| And.intro t153_a <| And.intro t153_if <| And.intro t153_ea <| And.intro t153_ar <| And.intro t153_pl <| And.intro t153_sz <| And.intro t153_by <| And.intro t153_z <| t153_zv
theorem t154 : type_of% (And.intro t154_k <| And.intro t154_a <| And.intro t154_if <| And.intro t154_e <| And.intro t154_s <| And.intro t154_sz <| And.intro t154_by <| And.intro t154_z <| And.intro t154_d <| t154_zv) := And.intro t154_k <| And.intro t154_a <| And.intro t154_if <| And.intro t154_e <| And.intro t154_s <| And.intro t154_sz <| And.intro t154_by <| And.intro t154_z <| And.intro t154_d <| t154_zv
theorem t155 : type_of% (And.intro t155_k <| And.intro t155_a <| And.intro t155_if <| And.intro t155_sz <| And.intro t155_z <| And.intro t155_zv <| And.intro t155_f0 <| And.intro t155_f1 <| And.intro t155_f2 <| And.intro t155_f3 <| And.intro t155_f4 <| t155_pl) := And.intro t155_k <| And.intro t155_a <| And.intro t155_if <| And.intro t155_sz <| And.intro t155_z <| And.intro t155_zv <| And.intro t155_f0 <| And.intro t155_f1 <| And.intro t155_f2 <| And.intro t155_f3 <| And.intro t155_f4 <| t155_pl
theorem t156 : type_of% (And.intro t156_k <| And.intro t156_a <| And.intro t156_if <| And.intro t156_sz <| And.intro t156_z <| And.intro t156_zv <| And.intro t156_f0 <| And.intro t156_f1 <| And.intro t156_f2 <| And.intro t156_f3 <| And.intro t156_f4 <| t156_pl) := And.intro t156_k <| And.intro t156_a <| And.intro t156_if <| And.intro t156_sz <| And.intro t156_z <| And.intro t156_zv <| And.intro t156_f0 <| And.intro t156_f1 <| And.intro t156_f2 <| And.intro t156_f3 <| And.intro t156_f4 <| t156_pl
theorem t157 : type_of% (And.intro t157_k <| And.intro t157_a <| And.intro t157_if <| And.intro t157_sz <| And.intro t157_z <| And.intro t157_zv <| And.intro t157_f0 <| And.intro t157_f1 <| t157_pl) := And.intro t157_k <| And.intro t157_a <| And.intro t157_if <| And.intro t157_sz <| And.intro t157_z <| And.intro t157_zv <| And.intro t157_f0 <| And.intro t157_f1 <| t157_pl
theorem t158 : type_of% (And.intro t158_k <| And.intro t158_a <| And.intro t158_if <| And.intro t158_sz <| And.intro t158_z <| And.intro t158_zv <| And.intro t158_f0 <| And.intro t158_f1 <| t158_pl) := And.intro t158_k <| And.intro t158_a <| And.intro t158_if <| And.intro t158_sz <| And.intro t158_z <| And.intro t158_zv <| And.intro t158_f0 <| And.intro t158_f1 <| t158_pl
theorem t163 : type_of% (And.intro t163_k <| And.intro t163_a <| And.intro t163_if <| And.intro t163_sz <| And.intro t163_z <| And.intro t163_zv <| And.intro t163_f0 <| And.intro t163_f1 <| And.intro t163_f2 <| And.intro t163_f3 <| t163_pl) := And.intro t163_k <| And.intro t163_a <| And.intro t163_if <| And.intro t163_sz <| And.intro t163_z <| And.intro t163_zv <| And.intro t163_f0 <| And.intro t163_f1 <| And.intro t163_f2 <| And.intro t163_f3 <| t163_pl
theorem t164 : type_of% (And.intro t164_k <| And.intro t164_a <| And.intro t164_if <| And.intro t164_sz <| And.intro t164_z <| And.intro t164_zv <| And.intro t164_f0 <| And.intro t164_f1 <| And.intro t164_f2 <| And.intro t164_f3 <| t164_pl) := And.intro t164_k <| And.intro t164_a <| And.intro t164_if <| And.intro t164_sz <| And.intro t164_z <| And.intro t164_zv <| And.intro t164_f0 <| And.intro t164_f1 <| And.intro t164_f2 <| And.intro t164_f3 <| t164_pl
theorem t165 : type_of% (And.intro t165_k <| And.intro t165_a <| And.intro t165_if <| And.intro t165_sz <| And.intro t165_by <| And.intro t165_z <| And.intro t165_d <| t165_zv) := And.intro t165_k <| And.intro t165_a <| And.intro t165_if <| And.intro t165_sz <| And.intro t165_by <| And.intro t165_z <| And.intro t165_d <| t165_zv
theorem t166 : type_of% (And.intro t166_k <| And.intro t166_a <| And.intro t166_if <| And.intro t166_sz <| And.intro t166_by <| And.intro t166_z <| And.intro t166_d <| t166_zv) := And.intro t166_k <| And.intro t166_a <| And.intro t166_if <| And.intro t166_sz <| And.intro t166_by <| And.intro t166_z <| And.intro t166_d <| t166_zv
theorem t167 : type_of% (And.intro t167_k <| And.intro t167_a <| And.intro t167_if <| And.intro t167_sz <| And.intro t167_z <| And.intro t167_zv <| And.intro t167_f0 <| And.intro t167_f1 <| And.intro t167_f2 <| And.intro t167_f3 <| t167_pl) := And.intro t167_k <| And.intro t167_a <| And.intro t167_if <| And.intro t167_sz <| And.intro t167_z <| And.intro t167_zv <| And.intro t167_f0 <| And.intro t167_f1 <| And.intro t167_f2 <| And.intro t167_f3 <| t167_pl
theorem t168 : type_of% (And.intro t168_k <| And.intro t168_a <| And.intro t168_if <| And.intro t168_sz <| And.intro t168_z <| And.intro t168_zv <| And.intro t168_f0 <| And.intro t168_f1 <| And.intro t168_f2 <| And.intro t168_f3 <| t168_pl) := And.intro t168_k <| And.intro t168_a <| And.intro t168_if <| And.intro t168_sz <| And.intro t168_z <| And.intro t168_zv <| And.intro t168_f0 <| And.intro t168_f1 <| And.intro t168_f2 <| And.intro t168_f3 <| t168_pl
theorem t170 : type_of% (And.intro t170_k <| And.intro t170_a <| And.intro t170_if <| And.intro t170_p <| And.intro t170_sz <| And.intro t170_by <| And.intro t170_z <| And.intro t170_d <| t170_zv) := And.intro t170_k <| And.intro t170_a <| And.intro t170_if <| And.intro t170_p <| And.intro t170_sz <| And.intro t170_by <| And.intro t170_z <| And.intro t170_d <| t170_zv
theorem t172 : type_of% (And.intro t172_k <| And.intro t172_a <| And.intro t172_if <| And.intro t172_p <| And.intro t172_sz <| And.intro t172_by <| And.intro t172_z <| And.intro t172_d <| t172_zv) := And.intro t172_k <| And.intro t172_a <| And.intro t172_if <| And.intro t172_p <| And.intro t172_sz <| And.intro t172_by <| And.intro t172_z <| And.intro t172_d <| t172_zv
theorem t174 : type_of% (And.intro t174_k <| And.intro t174_a <| And.intro t174_if <| And.intro t174_fn <| And.intro t174_sz <| And.intro t174_by <| And.intro t174_z <| And.intro t174_d <| t174_zv) := And.intro t174_k <| And.intro t174_a <| And.intro t174_if <| And.intro t174_fn <| And.intro t174_sz <| And.intro t174_by <| And.intro t174_z <| And.intro t174_d <| t174_zv
theorem t177 : type_of% (And.intro t177_k <| And.intro t177_a <| And.intro t177_if <| And.intro t177_sz <| And.intro t177_z <| And.intro t177_zv <| And.intro t177_f0 <| And.intro t177_f1 <| And.intro t177_f2 <| And.intro t177_f3 <| And.intro t177_f4 <| t177_pl) := And.intro t177_k <| And.intro t177_a <| And.intro t177_if <| And.intro t177_sz <| And.intro t177_z <| And.intro t177_zv <| And.intro t177_f0 <| And.intro t177_f1 <| And.intro t177_f2 <| And.intro t177_f3 <| And.intro t177_f4 <| t177_pl
theorem t178 : type_of% (And.intro t178_k <| And.intro t178_a <| And.intro t178_if <| And.intro t178_sz <| And.intro t178_z <| And.intro t178_zv <| And.intro t178_f0 <| And.intro t178_f1 <| And.intro t178_f2 <| And.intro t178_f3 <| And.intro t178_f4 <| t178_pl) := And.intro t178_k <| And.intro t178_a <| And.intro t178_if <| And.intro t178_sz <| And.intro t178_z <| And.intro t178_zv <| And.intro t178_f0 <| And.intro t178_f1 <| And.intro t178_f2 <| And.intro t178_f3 <| And.intro t178_f4 <| t178_pl
theorem t180 : type_of% (And.intro t180_k <| And.intro t180_a <| And.intro t180_if <| And.intro t180_p <| And.intro t180_sz <| And.intro t180_by <| And.intro t180_z <| And.intro t180_d <| t180_zv) := And.intro t180_k <| And.intro t180_a <| And.intro t180_if <| And.intro t180_p <| And.intro t180_sz <| And.intro t180_by <| And.intro t180_z <| And.intro t180_d <| t180_zv
theorem t181 : type_of% (And.intro t181_k <| And.intro t181_a <| And.intro t181_if <| And.intro t181_ea <| And.intro t181_ar <| And.intro t181_pl <| And.intro t181_sz <| And.intro t181_by <| And.intro t181_z <| t181_zv) := And.intro t181_k <| And.intro t181_a <| And.intro t181_if <| And.intro t181_ea <| And.intro t181_ar <| And.intro t181_pl <| And.intro t181_sz <| And.intro t181_by <| And.intro t181_z <| t181_zv
theorem t182 : type_of% (And.intro t182_k <| And.intro t182_a <| And.intro t182_if <| And.intro t182_sz <| And.intro t182_z <| And.intro t182_zv <| And.intro t182_f0 <| And.intro t182_f1 <| And.intro t182_f2 <| And.intro t182_f3 <| And.intro t182_f4 <| And.intro t182_f5 <| And.intro t182_f6 <| And.intro t182_f7 <| And.intro t182_f8 <| And.intro t182_f9 <| t182_pl) := And.intro t182_k <| And.intro t182_a <| And.intro t182_if <| And.intro t182_sz <| And.intro t182_z <| And.intro t182_zv <| And.intro t182_f0 <| And.intro t182_f1 <| And.intro t182_f2 <| And.intro t182_f3 <| And.intro t182_f4 <| And.intro t182_f5 <| And.intro t182_f6 <| And.intro t182_f7 <| And.intro t182_f8 <| And.intro t182_f9 <| t182_pl
theorem t183 : type_of% (And.intro t183_k <| And.intro t183_a <| And.intro t183_if <| And.intro t183_sz <| And.intro t183_z <| And.intro t183_zv <| And.intro t183_f0 <| And.intro t183_f1 <| And.intro t183_f2 <| And.intro t183_f3 <| And.intro t183_f4 <| And.intro t183_f5 <| And.intro t183_f6 <| And.intro t183_f7 <| And.intro t183_f8 <| And.intro t183_f9 <| t183_pl) := And.intro t183_k <| And.intro t183_a <| And.intro t183_if <| And.intro t183_sz <| And.intro t183_z <| And.intro t183_zv <| And.intro t183_f0 <| And.intro t183_f1 <| And.intro t183_f2 <| And.intro t183_f3 <| And.intro t183_f4 <| And.intro t183_f5 <| And.intro t183_f6 <| And.intro t183_f7 <| And.intro t183_f8 <| And.intro t183_f9 <| t183_pl
theorem t184 : type_of% (And.intro t184_k <| And.intro t184_a <| And.intro t184_if <| And.intro t184_p <| And.intro t184_sz <| And.intro t184_by <| And.intro t184_z <| And.intro t184_d <| t184_zv) := And.intro t184_k <| And.intro t184_a <| And.intro t184_if <| And.intro t184_p <| And.intro t184_sz <| And.intro t184_by <| And.intro t184_z <| And.intro t184_d <| t184_zv
theorem t185 : type_of% (And.intro t185_k <| And.intro t185_a <| And.intro t185_if <| And.intro t185_sz <| And.intro t185_z <| And.intro t185_zv <| And.intro t185_f0 <| And.intro t185_f1 <| And.intro t185_f2 <| And.intro t185_f3 <| And.intro t185_f4 <| And.intro t185_f5 <| And.intro t185_f6 <| And.intro t185_f7 <| And.intro t185_f8 <| And.intro t185_f9 <| And.intro t185_f10 <| t185_pl) := And.intro t185_k <| And.intro t185_a <| And.intro t185_if <| And.intro t185_sz <| And.intro t185_z <| And.intro t185_zv <| And.intro t185_f0 <| And.intro t185_f1 <| And.intro t185_f2 <| And.intro t185_f3 <| And.intro t185_f4 <| And.intro t185_f5 <| And.intro t185_f6 <| And.intro t185_f7 <| And.intro t185_f8 <| And.intro t185_f9 <| And.intro t185_f10 <| t185_pl
theorem t186 : type_of% (And.intro t186_k <| And.intro t186_a <| And.intro t186_if <| And.intro t186_sz <| And.intro t186_z <| And.intro t186_zv <| And.intro t186_f0 <| And.intro t186_f1 <| And.intro t186_f2 <| And.intro t186_f3 <| And.intro t186_f4 <| And.intro t186_f5 <| And.intro t186_f6 <| And.intro t186_f7 <| And.intro t186_f8 <| And.intro t186_f9 <| And.intro t186_f10 <| t186_pl) := And.intro t186_k <| And.intro t186_a <| And.intro t186_if <| And.intro t186_sz <| And.intro t186_z <| And.intro t186_zv <| And.intro t186_f0 <| And.intro t186_f1 <| And.intro t186_f2 <| And.intro t186_f3 <| And.intro t186_f4 <| And.intro t186_f5 <| And.intro t186_f6 <| And.intro t186_f7 <| And.intro t186_f8 <| And.intro t186_f9 <| And.intro t186_f10 <| t186_pl
theorem t188 : type_of% (And.intro t188_k <| And.intro t188_a <| And.intro t188_if <| And.intro t188_p <| And.intro t188_sz <| And.intro t188_by <| And.intro t188_z <| And.intro t188_d <| t188_zv) := And.intro t188_k <| And.intro t188_a <| And.intro t188_if <| And.intro t188_p <| And.intro t188_sz <| And.intro t188_by <| And.intro t188_z <| And.intro t188_d <| t188_zv
theorem t191 : type_of% (And.intro t191_k <| And.intro t191_a <| And.intro t191_if <| And.intro t191_p <| And.intro t191_sz <| And.intro t191_by <| And.intro t191_z <| And.intro t191_d <| t191_zv) := And.intro t191_k <| And.intro t191_a <| And.intro t191_if <| And.intro t191_p <| And.intro t191_sz <| And.intro t191_by <| And.intro t191_z <| And.intro t191_d <| t191_zv
theorem t192 : type_of% (And.intro t192_k <| And.intro t192_a <| And.intro t192_if <| And.intro t192_sz <| And.intro t192_z <| And.intro t192_zv <| And.intro t192_f0 <| And.intro t192_f1 <| And.intro t192_f2 <| And.intro t192_f3 <| And.intro t192_f4 <| And.intro t192_f5 <| t192_pl) := And.intro t192_k <| And.intro t192_a <| And.intro t192_if <| And.intro t192_sz <| And.intro t192_z <| And.intro t192_zv <| And.intro t192_f0 <| And.intro t192_f1 <| And.intro t192_f2 <| And.intro t192_f3 <| And.intro t192_f4 <| And.intro t192_f5 <| t192_pl
theorem t193 : type_of% (And.intro t193_k <| And.intro t193_a <| And.intro t193_if <| And.intro t193_sz <| And.intro t193_z <| And.intro t193_zv <| And.intro t193_f0 <| And.intro t193_f1 <| And.intro t193_f2 <| And.intro t193_f3 <| And.intro t193_f4 <| And.intro t193_f5 <| t193_pl) := And.intro t193_k <| And.intro t193_a <| And.intro t193_if <| And.intro t193_sz <| And.intro t193_z <| And.intro t193_zv <| And.intro t193_f0 <| And.intro t193_f1 <| And.intro t193_f2 <| And.intro t193_f3 <| And.intro t193_f4 <| And.intro t193_f5 <| t193_pl
theorem t194 : type_of% (And.intro t194_k <| And.intro t194_a <| And.intro t194_if <| And.intro t194_fn <| And.intro t194_sz <| And.intro t194_by <| And.intro t194_z <| And.intro t194_d <| t194_zv) := And.intro t194_k <| And.intro t194_a <| And.intro t194_if <| And.intro t194_fn <| And.intro t194_sz <| And.intro t194_by <| And.intro t194_z <| And.intro t194_d <| t194_zv
theorem t195 : type_of% (And.intro t195_k <| And.intro t195_a <| And.intro t195_if <| And.intro t195_fn <| And.intro t195_sz <| And.intro t195_by <| And.intro t195_z <| And.intro t195_d <| t195_zv) := And.intro t195_k <| And.intro t195_a <| And.intro t195_if <| And.intro t195_fn <| And.intro t195_sz <| And.intro t195_by <| And.intro t195_z <| And.intro t195_d <| t195_zv
theorem t199 : type_of% (And.intro t199_k <| And.intro t199_a <| And.intro t199_if <| And.intro t199_ea <| And.intro t199_ar <| And.intro t199_pl <| And.intro t199_sz <| And.intro t199_by <| And.intro t199_z <| t199_zv) := And.intro t199_k <| And.intro t199_a <| And.intro t199_if <| And.intro t199_ea <| And.intro t199_ar <| And.intro t199_pl <| And.intro t199_sz <| And.intro t199_by <| And.intro t199_z <| t199_zv
theorem t203 : type_of% (And.intro t203_k <| And.intro t203_a <| And.intro t203_if <| And.intro t203_e <| And.intro t203_s <| And.intro t203_sz <| And.intro t203_by <| And.intro t203_z <| And.intro t203_d <| t203_zv) := And.intro t203_k <| And.intro t203_a <| And.intro t203_if <| And.intro t203_e <| And.intro t203_s <| And.intro t203_sz <| And.intro t203_by <| And.intro t203_z <| And.intro t203_d <| t203_zv
theorem t208 : type_of% (And.intro t208_k <| And.intro t208_a <| And.intro t208_if <| And.intro t208_fn <| And.intro t208_sz <| And.intro t208_by <| And.intro t208_z <| And.intro t208_d <| t208_zv) := And.intro t208_k <| And.intro t208_a <| And.intro t208_if <| And.intro t208_fn <| And.intro t208_sz <| And.intro t208_by <| And.intro t208_z <| And.intro t208_d <| t208_zv
theorem t209 : type_of% (And.intro t209_k <| And.intro t209_a <| And.intro t209_if <| And.intro t209_fn <| And.intro t209_sz <| And.intro t209_by <| And.intro t209_z <| And.intro t209_d <| t209_zv) := And.intro t209_k <| And.intro t209_a <| And.intro t209_if <| And.intro t209_fn <| And.intro t209_sz <| And.intro t209_by <| And.intro t209_z <| And.intro t209_d <| t209_zv
theorem t220 : type_of% (And.intro t220_k <| And.intro t220_a <| And.intro t220_if <| And.intro t220_fn <| And.intro t220_sz <| And.intro t220_by <| And.intro t220_z <| And.intro t220_d <| t220_zv) := And.intro t220_k <| And.intro t220_a <| And.intro t220_if <| And.intro t220_fn <| And.intro t220_sz <| And.intro t220_by <| And.intro t220_z <| And.intro t220_d <| t220_zv
theorem t228 : type_of% (And.intro t228_k <| And.intro t228_a <| And.intro t228_if <| And.intro t228_mx <| And.intro t228_sz <| And.intro t228_by <| And.intro t228_z <| And.intro t228_d <| t228_zv) := And.intro t228_k <| And.intro t228_a <| And.intro t228_if <| And.intro t228_mx <| And.intro t228_sz <| And.intro t228_by <| And.intro t228_z <| And.intro t228_d <| t228_zv
theorem t229 : type_of% (And.intro t229_k <| And.intro t229_a <| And.intro t229_if <| And.intro t229_sz <| And.intro t229_z <| And.intro t229_zv <| And.intro t229_f0 <| And.intro t229_f1 <| And.intro t229_f2 <| And.intro t229_f3 <| t229_pl) := And.intro t229_k <| And.intro t229_a <| And.intro t229_if <| And.intro t229_sz <| And.intro t229_z <| And.intro t229_zv <| And.intro t229_f0 <| And.intro t229_f1 <| And.intro t229_f2 <| And.intro t229_f3 <| t229_pl
theorem t230 : type_of% (And.intro t230_k <| And.intro t230_a <| And.intro t230_if <| And.intro t230_sz <| And.intro t230_z <| And.intro t230_zv <| And.intro t230_f0 <| And.intro t230_f1 <| And.intro t230_f2 <| And.intro t230_f3 <| t230_pl) := And.intro t230_k <| And.intro t230_a <| And.intro t230_if <| And.intro t230_sz <| And.intro t230_z <| And.intro t230_zv <| And.intro t230_f0 <| And.intro t230_f1 <| And.intro t230_f2 <| And.intro t230_f3 <| t230_pl
theorem t231 : type_of% (And.intro t231_k <| And.intro t231_a <| And.intro t231_if <| And.intro t231_ea <| And.intro t231_ar <| And.intro t231_pl <| And.intro t231_sz <| And.intro t231_by <| And.intro t231_z <| t231_zv) := And.intro t231_k <| And.intro t231_a <| And.intro t231_if <| And.intro t231_ea <| And.intro t231_ar <| And.intro t231_pl <| And.intro t231_sz <| And.intro t231_by <| And.intro t231_z <| t231_zv
theorem t232 : type_of% (And.intro t232_k <| And.intro t232_a <| And.intro t232_if <| And.intro t232_ea <| And.intro t232_ar <| And.intro t232_pl <| And.intro t232_sz <| And.intro t232_by <| And.intro t232_z <| t232_zv) := And.intro t232_k <| And.intro t232_a <| And.intro t232_if <| And.intro t232_ea <| And.intro t232_ar <| And.intro t232_pl <| And.intro t232_sz <| And.intro t232_by <| And.intro t232_z <| t232_zv
theorem t236 : type_of% (And.intro t236_k <| And.intro t236_a <| And.intro t236_if <| And.intro t236_p <| And.intro t236_sz <| And.intro t236_by <| And.intro t236_z <| And.intro t236_d <| t236_zv) := And.intro t236_k <| And.intro t236_a <| And.intro t236_if <| And.intro t236_p <| And.intro t236_sz <| And.intro t236_by <| And.intro t236_z <| And.intro t236_d <| t236_zv
theorem t240 : type_of% (And.intro t240_k <| And.intro t240_a <| And.intro t240_if <| And.intro t240_e <| And.intro t240_s <| And.intro t240_sz <| And.intro t240_by <| And.intro t240_z <| And.intro t240_d <| t240_zv) := And.intro t240_k <| And.intro t240_a <| And.intro t240_if <| And.intro t240_e <| And.intro t240_s <| And.intro t240_sz <| And.intro t240_by <| And.intro t240_z <| And.intro t240_d <| t240_zv
theorem t241 : type_of% (And.intro t241_k <| And.intro t241_a <| And.intro t241_if <| And.intro t241_fn <| And.intro t241_sz <| And.intro t241_by <| And.intro t241_z <| And.intro t241_d <| t241_zv) := And.intro t241_k <| And.intro t241_a <| And.intro t241_if <| And.intro t241_fn <| And.intro t241_sz <| And.intro t241_by <| And.intro t241_z <| And.intro t241_d <| t241_zv
theorem t243 : type_of% (And.intro t243_k <| And.intro t243_a <| And.intro t243_if <| And.intro t243_fn <| And.intro t243_sz <| And.intro t243_by <| And.intro t243_z <| And.intro t243_d <| t243_zv) := And.intro t243_k <| And.intro t243_a <| And.intro t243_if <| And.intro t243_fn <| And.intro t243_sz <| And.intro t243_by <| And.intro t243_z <| And.intro t243_d <| t243_zv
theorem t254 : type_of% (And.intro t254_k <| And.intro t254_a <| And.intro t254_if <| And.intro t254_ea <| And.intro t254_ar <| And.intro t254_pl <| And.intro t254_sz <| And.intro t254_by <| And.intro t254_z <| t254_zv) := And.intro t254_k <| And.intro t254_a <| And.intro t254_if <| And.intro t254_ea <| And.intro t254_ar <| And.intro t254_pl <| And.intro t254_sz <| And.intro t254_by <| And.intro t254_z <| t254_zv
theorem t255 : type_of% (And.intro t255_k <| And.intro t255_a <| And.intro t255_if <| And.intro t255_ea <| And.intro t255_ar <| And.intro t255_pl <| And.intro t255_sz <| And.intro t255_by <| And.intro t255_z <| t255_zv) := And.intro t255_k <| And.intro t255_a <| And.intro t255_if <| And.intro t255_ea <| And.intro t255_ar <| And.intro t255_pl <| And.intro t255_sz <| And.intro t255_by <| And.intro t255_z <| t255_zv
theorem t257 : type_of% (And.intro t257_k <| And.intro t257_a <| And.intro t257_if <| And.intro t257_ea <| And.intro t257_ar <| And.intro t257_pl <| And.intro t257_sz <| And.intro t257_by <| And.intro t257_z <| t257_zv) := And.intro t257_k <| And.intro t257_a <| And.intro t257_if <| And.intro t257_ea <| And.intro t257_ar <| And.intro t257_pl <| And.intro t257_sz <| And.intro t257_by <| And.intro t257_z <| t257_zv
theorem t259 : type_of% (And.intro t259_k <| And.intro t259_a <| And.intro t259_if <| And.intro t259_ea <| And.intro t259_ar <| And.intro t259_pl <| And.intro t259_sz <| And.intro t259_by <| And.intro t259_z <| t259_zv) := And.intro t259_k <| And.intro t259_a <| And.intro t259_if <| And.intro t259_ea <| And.intro t259_ar <| And.intro t259_pl <| And.intro t259_sz <| And.intro t259_by <| And.intro t259_z <| t259_zv
theorem t261 : type_of% (And.intro t261_k <| And.intro t261_a <| And.intro t261_if <| And.intro t261_sz <| And.intro t261_z <| And.intro t261_zv <| And.intro t261_f0 <| And.intro t261_f1 <| And.intro t261_f2 <| t261_pl) := And.intro t261_k <| And.intro t261_a <| And.intro t261_if <| And.intro t261_sz <| And.intro t261_z <| And.intro t261_zv <| And.intro t261_f0 <| And.intro t261_f1 <| And.intro t261_f2 <| t261_pl
theorem t262 : type_of% (And.intro t262_k <| And.intro t262_a <| And.intro t262_if <| And.intro t262_sz <| And.intro t262_z <| And.intro t262_zv <| And.intro t262_f0 <| And.intro t262_f1 <| And.intro t262_f2 <| t262_pl) := And.intro t262_k <| And.intro t262_a <| And.intro t262_if <| And.intro t262_sz <| And.intro t262_z <| And.intro t262_zv <| And.intro t262_f0 <| And.intro t262_f1 <| And.intro t262_f2 <| t262_pl
theorem t265 : type_of% (And.intro t265_k <| And.intro t265_a <| And.intro t265_if <| And.intro t265_p <| And.intro t265_sz <| And.intro t265_by <| And.intro t265_z <| And.intro t265_d <| t265_zv) := And.intro t265_k <| And.intro t265_a <| And.intro t265_if <| And.intro t265_p <| And.intro t265_sz <| And.intro t265_by <| And.intro t265_z <| And.intro t265_d <| t265_zv
theorem t266 : type_of% (And.intro t266_k <| And.intro t266_a <| And.intro t266_if <| And.intro t266_sz <| And.intro t266_z <| And.intro t266_zv <| And.intro t266_f0 <| And.intro t266_f1 <| t266_pl) := And.intro t266_k <| And.intro t266_a <| And.intro t266_if <| And.intro t266_sz <| And.intro t266_z <| And.intro t266_zv <| And.intro t266_f0 <| And.intro t266_f1 <| t266_pl
theorem t267 : type_of% (And.intro t267_k <| And.intro t267_a <| And.intro t267_if <| And.intro t267_sz <| And.intro t267_z <| And.intro t267_zv <| And.intro t267_f0 <| And.intro t267_f1 <| t267_pl) := And.intro t267_k <| And.intro t267_a <| And.intro t267_if <| And.intro t267_sz <| And.intro t267_z <| And.intro t267_zv <| And.intro t267_f0 <| And.intro t267_f1 <| t267_pl
theorem t271 : type_of% (And.intro t271_k <| And.intro t271_a <| And.intro t271_if <| And.intro t271_ea <| And.intro t271_ar <| And.intro t271_pl <| And.intro t271_sz <| And.intro t271_by <| And.intro t271_z <| t271_zv) := And.intro t271_k <| And.intro t271_a <| And.intro t271_if <| And.intro t271_ea <| And.intro t271_ar <| And.intro t271_pl <| And.intro t271_sz <| And.intro t271_by <| And.intro t271_z <| t271_zv
theorem t279 : type_of% (And.intro t279_k <| And.intro t279_a <| And.intro t279_if <| And.intro t279_sz <| And.intro t279_z <| And.intro t279_zv <| And.intro t279_f0 <| And.intro t279_f1 <| And.intro t279_f2 <| And.intro t279_f3 <| t279_pl) := And.intro t279_k <| And.intro t279_a <| And.intro t279_if <| And.intro t279_sz <| And.intro t279_z <| And.intro t279_zv <| And.intro t279_f0 <| And.intro t279_f1 <| And.intro t279_f2 <| And.intro t279_f3 <| t279_pl
theorem t280 : type_of% (And.intro t280_k <| And.intro t280_a <| And.intro t280_if <| And.intro t280_sz <| And.intro t280_z <| And.intro t280_zv <| And.intro t280_f0 <| And.intro t280_f1 <| And.intro t280_f2 <| And.intro t280_f3 <| t280_pl) := And.intro t280_k <| And.intro t280_a <| And.intro t280_if <| And.intro t280_sz <| And.intro t280_z <| And.intro t280_zv <| And.intro t280_f0 <| And.intro t280_f1 <| And.intro t280_f2 <| And.intro t280_f3 <| t280_pl
theorem t281 : type_of% (And.intro t281_k <| And.intro t281_a <| And.intro t281_if <| And.intro t281_ar <| And.intro t281_pl <| And.intro t281_sz <| And.intro t281_by <| And.intro t281_z <| t281_zv) := And.intro t281_k <| And.intro t281_a <| And.intro t281_if <| And.intro t281_ar <| And.intro t281_pl <| And.intro t281_sz <| And.intro t281_by <| And.intro t281_z <| t281_zv
theorem t282 : type_of% (And.intro t282_k <| And.intro t282_a <| And.intro t282_if <| And.intro t282_sz <| And.intro t282_z <| And.intro t282_zv <| And.intro t282_f0 <| t282_pl) := And.intro t282_k <| And.intro t282_a <| And.intro t282_if <| And.intro t282_sz <| And.intro t282_z <| And.intro t282_zv <| And.intro t282_f0 <| t282_pl
theorem t283 : type_of% (And.intro t283_k <| And.intro t283_a <| And.intro t283_if <| And.intro t283_sz <| And.intro t283_z <| And.intro t283_zv <| And.intro t283_f0 <| t283_pl) := And.intro t283_k <| And.intro t283_a <| And.intro t283_if <| And.intro t283_sz <| And.intro t283_z <| And.intro t283_zv <| And.intro t283_f0 <| t283_pl
theorem t284 : type_of% (And.intro t284_k <| And.intro t284_a <| And.intro t284_if <| And.intro t284_i <| And.intro t284_sz <| And.intro t284_by <| And.intro t284_z <| And.intro t284_d <| t284_zv) := And.intro t284_k <| And.intro t284_a <| And.intro t284_if <| And.intro t284_i <| And.intro t284_sz <| And.intro t284_by <| And.intro t284_z <| And.intro t284_d <| t284_zv
theorem t285 : type_of% (And.intro t285_k <| And.intro t285_a <| And.intro t285_if <| And.intro t285_i <| And.intro t285_sz <| And.intro t285_by <| And.intro t285_z <| And.intro t285_d <| t285_zv) := And.intro t285_k <| And.intro t285_a <| And.intro t285_if <| And.intro t285_i <| And.intro t285_sz <| And.intro t285_by <| And.intro t285_z <| And.intro t285_d <| t285_zv
theorem t286 : type_of% (And.intro t286_k <| And.intro t286_a <| And.intro t286_if <| And.intro t286_fn <| And.intro t286_sz <| And.intro t286_by <| And.intro t286_z <| And.intro t286_d <| t286_zv) := And.intro t286_k <| And.intro t286_a <| And.intro t286_if <| And.intro t286_fn <| And.intro t286_sz <| And.intro t286_by <| And.intro t286_z <| And.intro t286_d <| t286_zv
theorem t287 : type_of% (And.intro t287_k <| And.intro t287_a <| And.intro t287_if <| And.intro t287_p <| And.intro t287_sz <| And.intro t287_by <| And.intro t287_z <| And.intro t287_d <| t287_zv) := And.intro t287_k <| And.intro t287_a <| And.intro t287_if <| And.intro t287_p <| And.intro t287_sz <| And.intro t287_by <| And.intro t287_z <| And.intro t287_d <| t287_zv
theorem t288 : type_of% (And.intro t288_k <| And.intro t288_a <| And.intro t288_if <| And.intro t288_i <| And.intro t288_sz <| And.intro t288_by <| And.intro t288_z <| And.intro t288_d <| t288_zv) := And.intro t288_k <| And.intro t288_a <| And.intro t288_if <| And.intro t288_i <| And.intro t288_sz <| And.intro t288_by <| And.intro t288_z <| And.intro t288_d <| t288_zv
theorem t289 : type_of% (And.intro t289_k <| And.intro t289_a <| And.intro t289_if <| And.intro t289_i <| And.intro t289_sz <| And.intro t289_by <| And.intro t289_z <| And.intro t289_d <| t289_zv) := And.intro t289_k <| And.intro t289_a <| And.intro t289_if <| And.intro t289_i <| And.intro t289_sz <| And.intro t289_by <| And.intro t289_z <| And.intro t289_d <| t289_zv
theorem t290 : type_of% (And.intro t290_k <| And.intro t290_a <| And.intro t290_if <| And.intro t290_sz <| And.intro t290_z <| And.intro t290_zv <| And.intro t290_f0 <| And.intro t290_f1 <| And.intro t290_f2 <| And.intro t290_f3 <| And.intro t290_f4 <| And.intro t290_f5 <| And.intro t290_f6 <| And.intro t290_f7 <| And.intro t290_f8 <| And.intro t290_f9 <| And.intro t290_f10 <| t290_pl) := And.intro t290_k <| And.intro t290_a <| And.intro t290_if <| And.intro t290_sz <| And.intro t290_z <| And.intro t290_zv <| And.intro t290_f0 <| And.intro t290_f1 <| And.intro t290_f2 <| And.intro t290_f3 <| And.intro t290_f4 <| And.intro t290_f5 <| And.intro t290_f6 <| And.intro t290_f7 <| And.intro t290_f8 <| And.intro t290_f9 <| And.intro t290_f10 <| t290_pl
theorem t291 : type_of% (And.intro t291_k <| And.intro t291_a <| And.intro t291_if <| And.intro t291_sz <| And.intro t291_z <| And.intro t291_zv <| And.intro t291_f0 <| And.intro t291_f1 <| And.intro t291_f2 <| And.intro t291_f3 <| And.intro t291_f4 <| And.intro t291_f5 <| And.intro t291_f6 <| And.intro t291_f7 <| And.intro t291_f8 <| And.intro t291_f9 <| And.intro t291_f10 <| t291_pl) := And.intro t291_k <| And.intro t291_a <| And.intro t291_if <| And.intro t291_sz <| And.intro t291_z <| And.intro t291_zv <| And.intro t291_f0 <| And.intro t291_f1 <| And.intro t291_f2 <| And.intro t291_f3 <| And.intro t291_f4 <| And.intro t291_f5 <| And.intro t291_f6 <| And.intro t291_f7 <| And.intro t291_f8 <| And.intro t291_f9 <| And.intro t291_f10 <| t291_pl
theorem t293 : type_of% (And.intro t293_k <| And.intro t293_a <| And.intro t293_if <| And.intro t293_ea <| And.intro t293_sz <| And.intro t293_z <| And.intro t293_zv <| And.intro t293_f0 <| And.intro t293_f1 <| t293_pl) := And.intro t293_k <| And.intro t293_a <| And.intro t293_if <| And.intro t293_ea <| And.intro t293_sz <| And.intro t293_z <| And.intro t293_zv <| And.intro t293_f0 <| And.intro t293_f1 <| t293_pl
theorem t294 : type_of% (And.intro t294_k <| And.intro t294_a <| And.intro t294_if <| And.intro t294_ea <| And.intro t294_sz <| And.intro t294_z <| And.intro t294_zv <| And.intro t294_f0 <| And.intro t294_f1 <| t294_pl) := And.intro t294_k <| And.intro t294_a <| And.intro t294_if <| And.intro t294_ea <| And.intro t294_sz <| And.intro t294_z <| And.intro t294_zv <| And.intro t294_f0 <| And.intro t294_f1 <| t294_pl
theorem mixed : Go.Proofs.Try.prog.follows .mixedOrders = true := by kernel_rfl
end Go.Proofs.Ytmdeoikpiiambaa.Fx
