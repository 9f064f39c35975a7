/- Facts on the types and functions of the translation, written by a program of our own. -/
import Derived.Test.YtiibjaommelkkaaEng10
import Derived.Test.YtiibjaommelkkaaProg
set_option maxRecDepth 100000
namespace Go.Proofs.Ytiibjaommelkkaa.Fx
open Go Go.Eng
theorem t1_k : known Go.Proofs.Try.prog 1 = true := by kernel_rfl
theorem t1_a : aggT Go.Proofs.Try.prog 1 = false := by kernel_rfl
theorem t1_if : isIfaceT Go.Proofs.Try.prog 1 = false := by kernel_rfl
theorem t1_fn : isFuncT Go.Proofs.Try.prog 1 = true := by kernel_rfl
theorem t2_k : known Go.Proofs.Try.prog 2 = true := by kernel_rfl
theorem t2_a : aggT Go.Proofs.Try.prog 2 = false := by kernel_rfl
theorem t2_if : isIfaceT Go.Proofs.Try.prog 2 = false := by kernel_rfl
theorem t2_i : intT Go.Proofs.Try.prog 2 = some .i64 := by kernel_rfl
theorem t3_k : known Go.Proofs.Try.prog 3 = true := by kernel_rfl
theorem t3_a : aggT Go.Proofs.Try.prog 3 = false := by kernel_rfl
theorem t3_if : isIfaceT Go.Proofs.Try.prog 3 = false := by kernel_rfl
theorem t3_i : intT Go.Proofs.Try.prog 3 = some .i64 := by kernel_rfl
theorem t4_k : known Go.Proofs.Try.prog 4 = true := by kernel_rfl
theorem t4_a : aggT Go.Proofs.Try.prog 4 = false := by kernel_rfl
theorem t4_if : isIfaceT Go.Proofs.Try.prog 4 = false := by kernel_rfl
theorem t4_b : isBoolT Go.Proofs.Try.prog 4 = true := by kernel_rfl
theorem t5_k : known Go.Proofs.Try.prog 5 = true := by kernel_rfl
theorem t5_a : aggT Go.Proofs.Try.prog 5 = false := by kernel_rfl
theorem t5_if : isIfaceT Go.Proofs.Try.prog 5 = false := by kernel_rfl
theorem t5_i : intT Go.Proofs.Try.prog 5 = some .u8 := by kernel_rfl
theorem t6_k : known Go.Proofs.Try.prog 6 = true := by kernel_rfl
theorem t6_a : aggT Go.Proofs.Try.prog 6 = false := by kernel_rfl
theorem t6_if : isIfaceT Go.Proofs.Try.prog 6 = false := by kernel_rfl
theorem t6_i : intT Go.Proofs.Try.prog 6 = some .u8 := by kernel_rfl
theorem t7_k : known Go.Proofs.Try.prog 7 = true := by kernel_rfl
theorem t7_a : aggT Go.Proofs.Try.prog 7 = true := by kernel_rfl
theorem t7_if : isIfaceT Go.Proofs.Try.prog 7 = false := by kernel_rfl
theorem t8_k : known Go.Proofs.Try.prog 8 = true := by kernel_rfl
theorem t8_a : aggT Go.Proofs.Try.prog 8 = true := by kernel_rfl
theorem t8_if : isIfaceT Go.Proofs.Try.prog 8 = false := by kernel_rfl
theorem t9_k : known Go.Proofs.Try.prog 9 = true := by kernel_rfl
theorem t9_a : aggT Go.Proofs.Try.prog 9 = false := by kernel_rfl
theorem t9_if : isIfaceT Go.Proofs.Try.prog 9 = false := by kernel_rfl
theorem t9_s : isStrT Go.Proofs.Try.prog 9 = true := by kernel_rfl
theorem t10_k : known Go.Proofs.Try.prog 10 = true := by kernel_rfl
theorem t10_a : aggT Go.Proofs.Try.prog 10 = false := by kernel_rfl
theorem t10_if : isIfaceT Go.Proofs.Try.prog 10 = false := by kernel_rfl
theorem t10_s : isStrT Go.Proofs.Try.prog 10 = true := by kernel_rfl
theorem t11_k : known Go.Proofs.Try.prog 11 = true := by kernel_rfl
theorem t11_a : aggT Go.Proofs.Try.prog 11 = false := by kernel_rfl
theorem t11_if : isIfaceT Go.Proofs.Try.prog 11 = false := by kernel_rfl
theorem t11_s : isStrT Go.Proofs.Try.prog 11 = true := by kernel_rfl
theorem t12_k : known Go.Proofs.Try.prog 12 = true := by kernel_rfl
theorem t12_a : aggT Go.Proofs.Try.prog 12 = false := by kernel_rfl
theorem t12_if : isIfaceT Go.Proofs.Try.prog 12 = false := by kernel_rfl
theorem t12_i : intT Go.Proofs.Try.prog 12 = some .u64 := by kernel_rfl
theorem t13_k : known Go.Proofs.Try.prog 13 = true := by kernel_rfl
theorem t13_a : aggT Go.Proofs.Try.prog 13 = true := by kernel_rfl
theorem t13_if : isIfaceT Go.Proofs.Try.prog 13 = false := by kernel_rfl
theorem t14_k : known Go.Proofs.Try.prog 14 = true := by kernel_rfl
theorem t14_a : aggT Go.Proofs.Try.prog 14 = true := by kernel_rfl
theorem t14_if : isIfaceT Go.Proofs.Try.prog 14 = false := by kernel_rfl
theorem t15_k : known Go.Proofs.Try.prog 15 = true := by kernel_rfl
theorem t15_a : aggT Go.Proofs.Try.prog 15 = false := by kernel_rfl
theorem t15_if : isIfaceT Go.Proofs.Try.prog 15 = false := by kernel_rfl
theorem t15_p : isPtrT Go.Proofs.Try.prog 15 = true := by kernel_rfl
theorem t16_k : known Go.Proofs.Try.prog 16 = true := by kernel_rfl
theorem t16_a : aggT Go.Proofs.Try.prog 16 = false := by kernel_rfl
theorem t16_if : isIfaceT Go.Proofs.Try.prog 16 = false := by kernel_rfl
theorem t16_p : isPtrT Go.Proofs.Try.prog 16 = true := by kernel_rfl
theorem t17_k : known Go.Proofs.Try.prog 17 = true := by kernel_rfl
theorem t17_a : aggT Go.Proofs.Try.prog 17 = false := by kernel_rfl
theorem t17_if : isIfaceT Go.Proofs.Try.prog 17 = false := by kernel_rfl
theorem t17_p : isPtrT Go.Proofs.Try.prog 17 = true := by kernel_rfl
theorem t18_k : known Go.Proofs.Try.prog 18 = true := by kernel_rfl
theorem t18_a : aggT Go.Proofs.Try.prog 18 = true := by kernel_rfl
theorem t18_if : isIfaceT Go.Proofs.Try.prog 18 = false := by kernel_rfl
theorem t19_k : known Go.Proofs.Try.prog 19 = true := by kernel_rfl
theorem t19_a : aggT Go.Proofs.Try.prog 19 = true := by kernel_rfl
theorem t19_if : isIfaceT Go.Proofs.Try.prog 19 = false := by kernel_rfl
theorem t20_k : known Go.Proofs.Try.prog 20 = true := by kernel_rfl
theorem t20_a : aggT Go.Proofs.Try.prog 20 = false := by kernel_rfl
theorem t20_if : isIfaceT Go.Proofs.Try.prog 20 = true := by kernel_rfl
theorem t21_k : known Go.Proofs.Try.prog 21 = true := by kernel_rfl
theorem t21_a : aggT Go.Proofs.Try.prog 21 = false := by kernel_rfl
theorem t21_if : isIfaceT Go.Proofs.Try.prog 21 = false := by kernel_rfl
theorem t21_i : intT Go.Proofs.Try.prog 21 = some .i32 := by kernel_rfl
theorem t22_k : known Go.Proofs.Try.prog 22 = true := by kernel_rfl
theorem t22_a : aggT Go.Proofs.Try.prog 22 = false := by kernel_rfl
theorem t22_if : isIfaceT Go.Proofs.Try.prog 22 = false := by kernel_rfl
theorem t22_e : elemT Go.Proofs.Try.prog 22 = some 5 := by kernel_rfl
theorem t22_s : isStrT Go.Proofs.Try.prog 22 = false := by kernel_rfl
theorem t23_k : known Go.Proofs.Try.prog 23 = true := by kernel_rfl
theorem t23_a : aggT Go.Proofs.Try.prog 23 = false := by kernel_rfl
theorem t23_if : isIfaceT Go.Proofs.Try.prog 23 = false := by kernel_rfl
theorem t23_fn : isFuncT Go.Proofs.Try.prog 23 = true := by kernel_rfl
theorem t24_k : known Go.Proofs.Try.prog 24 = true := by kernel_rfl
theorem t24_a : aggT Go.Proofs.Try.prog 24 = false := by kernel_rfl
theorem t24_if : isIfaceT Go.Proofs.Try.prog 24 = false := by kernel_rfl
theorem t24_i : intT Go.Proofs.Try.prog 24 = some .i64 := by kernel_rfl
theorem t26_k : known Go.Proofs.Try.prog 26 = true := by kernel_rfl
theorem t26_a : aggT Go.Proofs.Try.prog 26 = false := by kernel_rfl
theorem t26_if : isIfaceT Go.Proofs.Try.prog 26 = false := by kernel_rfl
theorem t26_fn : isFuncT Go.Proofs.Try.prog 26 = true := by kernel_rfl
theorem t27_k : known Go.Proofs.Try.prog 27 = true := by kernel_rfl
theorem t27_a : aggT Go.Proofs.Try.prog 27 = false := by kernel_rfl
theorem t27_if : isIfaceT Go.Proofs.Try.prog 27 = false := by kernel_rfl
theorem t27_fn : isFuncT Go.Proofs.Try.prog 27 = true := by kernel_rfl
theorem t28_k : known Go.Proofs.Try.prog 28 = true := by kernel_rfl
theorem t28_a : aggT Go.Proofs.Try.prog 28 = false := by kernel_rfl
theorem t28_if : isIfaceT Go.Proofs.Try.prog 28 = false := by kernel_rfl
theorem t28_fn : isFuncT Go.Proofs.Try.prog 28 = true := by kernel_rfl
theorem t29_k : known Go.Proofs.Try.prog 29 = true := by kernel_rfl
theorem t29_a : aggT Go.Proofs.Try.prog 29 = false := by kernel_rfl
theorem t29_if : isIfaceT Go.Proofs.Try.prog 29 = false := by kernel_rfl
theorem t29_fn : isFuncT Go.Proofs.Try.prog 29 = true := by kernel_rfl
theorem t30_k : known Go.Proofs.Try.prog 30 = true := by kernel_rfl
theorem t30_a : aggT Go.Proofs.Try.prog 30 = false := by kernel_rfl
theorem t30_if : isIfaceT Go.Proofs.Try.prog 30 = false := by kernel_rfl
theorem t30_i : intT Go.Proofs.Try.prog 30 = some .u64 := by kernel_rfl
theorem t31_k : known Go.Proofs.Try.prog 31 = true := by kernel_rfl
theorem t31_a : aggT Go.Proofs.Try.prog 31 = false := by kernel_rfl
theorem t31_if : isIfaceT Go.Proofs.Try.prog 31 = false := by kernel_rfl
theorem t31_fn : isFuncT Go.Proofs.Try.prog 31 = true := by kernel_rfl
theorem t32_k : known Go.Proofs.Try.prog 32 = true := by kernel_rfl
theorem t32_a : aggT Go.Proofs.Try.prog 32 = false := by kernel_rfl
theorem t32_if : isIfaceT Go.Proofs.Try.prog 32 = false := by kernel_rfl
theorem t32_fn : isFuncT Go.Proofs.Try.prog 32 = true := by kernel_rfl
theorem t33_k : known Go.Proofs.Try.prog 33 = true := by kernel_rfl
theorem t33_a : aggT Go.Proofs.Try.prog 33 = false := by kernel_rfl
theorem t33_if : isIfaceT Go.Proofs.Try.prog 33 = false := by kernel_rfl
theorem t33_fn : isFuncT Go.Proofs.Try.prog 33 = true := by kernel_rfl
theorem t34_k : known Go.Proofs.Try.prog 34 = true := by kernel_rfl
theorem t34_a : aggT Go.Proofs.Try.prog 34 = false := by kernel_rfl
theorem t34_if : isIfaceT Go.Proofs.Try.prog 34 = false := by kernel_rfl
theorem t34_i : intT Go.Proofs.Try.prog 34 = some .u32 := by kernel_rfl
theorem t35_k : known Go.Proofs.Try.prog 35 = true := by kernel_rfl
theorem t35_a : aggT Go.Proofs.Try.prog 35 = false := by kernel_rfl
theorem t35_if : isIfaceT Go.Proofs.Try.prog 35 = false := by kernel_rfl
theorem t35_fn : isFuncT Go.Proofs.Try.prog 35 = true := by kernel_rfl
theorem t36_k : known Go.Proofs.Try.prog 36 = true := by kernel_rfl
theorem t36_a : aggT Go.Proofs.Try.prog 36 = false := by kernel_rfl
theorem t36_if : isIfaceT Go.Proofs.Try.prog 36 = false := by kernel_rfl
theorem t36_fn : isFuncT Go.Proofs.Try.prog 36 = true := by kernel_rfl
theorem t37_k : known Go.Proofs.Try.prog 37 = true := by kernel_rfl
theorem t37_a : aggT Go.Proofs.Try.prog 37 = false := by kernel_rfl
theorem t37_if : isIfaceT Go.Proofs.Try.prog 37 = false := by kernel_rfl
theorem t37_fn : isFuncT Go.Proofs.Try.prog 37 = true := by kernel_rfl
theorem t38_k : known Go.Proofs.Try.prog 38 = true := by kernel_rfl
theorem t38_a : aggT Go.Proofs.Try.prog 38 = false := by kernel_rfl
theorem t38_if : isIfaceT Go.Proofs.Try.prog 38 = false := by kernel_rfl
theorem t38_fn : isFuncT Go.Proofs.Try.prog 38 = true := by kernel_rfl
theorem t39_k : known Go.Proofs.Try.prog 39 = true := by kernel_rfl
theorem t39_a : aggT Go.Proofs.Try.prog 39 = false := by kernel_rfl
theorem t39_if : isIfaceT Go.Proofs.Try.prog 39 = false := by kernel_rfl
theorem t39_i : intT Go.Proofs.Try.prog 39 = some .u16 := by kernel_rfl
theorem t40_k : known Go.Proofs.Try.prog 40 = true := by kernel_rfl
theorem t40_a : aggT Go.Proofs.Try.prog 40 = false := by kernel_rfl
theorem t40_if : isIfaceT Go.Proofs.Try.prog 40 = false := by kernel_rfl
theorem t40_fn : isFuncT Go.Proofs.Try.prog 40 = true := by kernel_rfl
theorem t41_k : known Go.Proofs.Try.prog 41 = true := by kernel_rfl
theorem t41_a : aggT Go.Proofs.Try.prog 41 = false := by kernel_rfl
theorem t41_if : isIfaceT Go.Proofs.Try.prog 41 = false := by kernel_rfl
theorem t41_fn : isFuncT Go.Proofs.Try.prog 41 = true := by kernel_rfl
theorem t42_k : known Go.Proofs.Try.prog 42 = true := by kernel_rfl
theorem t42_a : aggT Go.Proofs.Try.prog 42 = false := by kernel_rfl
theorem t42_if : isIfaceT Go.Proofs.Try.prog 42 = false := by kernel_rfl
theorem t42_fn : isFuncT Go.Proofs.Try.prog 42 = true := by kernel_rfl
theorem t43_k : known Go.Proofs.Try.prog 43 = true := by kernel_rfl
theorem t43_a : aggT Go.Proofs.Try.prog 43 = false := by kernel_rfl
theorem t43_if : isIfaceT Go.Proofs.Try.prog 43 = false := by kernel_rfl
theorem t43_fn : isFuncT Go.Proofs.Try.prog 43 = true := by kernel_rfl
theorem t44_k : known Go.Proofs.Try.prog 44 = true := by kernel_rfl
theorem t44_a : aggT Go.Proofs.Try.prog 44 = false := by kernel_rfl
theorem t44_if : isIfaceT Go.Proofs.Try.prog 44 = false := by kernel_rfl
theorem t44_fn : isFuncT Go.Proofs.Try.prog 44 = true := by kernel_rfl
theorem t45_k : known Go.Proofs.Try.prog 45 = true := by kernel_rfl
theorem t45_a : aggT Go.Proofs.Try.prog 45 = true := by kernel_rfl
theorem t45_if : isIfaceT Go.Proofs.Try.prog 45 = false := by kernel_rfl
theorem t45_ea : eqAggT Go.Proofs.Try.prog 45 = true := by kernel_rfl
theorem t45_ar : arrT Go.Proofs.Try.prog 45 = some (32, 5) := by kernel_rfl
theorem t45_pl : placesT Go.Proofs.Try.prog 45 = none := by kernel_rfl
theorem t46_k : known Go.Proofs.Try.prog 46 = true := by kernel_rfl
theorem t46_a : aggT Go.Proofs.Try.prog 46 = false := by kernel_rfl
theorem t46_if : isIfaceT Go.Proofs.Try.prog 46 = false := by kernel_rfl
theorem t46_fn : isFuncT Go.Proofs.Try.prog 46 = true := by kernel_rfl
theorem t47_k : known Go.Proofs.Try.prog 47 = true := by kernel_rfl
theorem t47_a : aggT Go.Proofs.Try.prog 47 = false := by kernel_rfl
theorem t47_if : isIfaceT Go.Proofs.Try.prog 47 = false := by kernel_rfl
theorem t47_fn : isFuncT Go.Proofs.Try.prog 47 = true := by kernel_rfl
theorem t48_k : known Go.Proofs.Try.prog 48 = true := by kernel_rfl
theorem t48_a : aggT Go.Proofs.Try.prog 48 = false := by kernel_rfl
theorem t48_if : isIfaceT Go.Proofs.Try.prog 48 = false := by kernel_rfl
theorem t48_fn : isFuncT Go.Proofs.Try.prog 48 = true := by kernel_rfl
theorem t49_k : known Go.Proofs.Try.prog 49 = true := by kernel_rfl
theorem t49_a : aggT Go.Proofs.Try.prog 49 = false := by kernel_rfl
theorem t49_if : isIfaceT Go.Proofs.Try.prog 49 = false := by kernel_rfl
theorem t49_e : elemT Go.Proofs.Try.prog 49 = some 22 := by kernel_rfl
theorem t49_s : isStrT Go.Proofs.Try.prog 49 = false := by kernel_rfl
theorem t50_k : known Go.Proofs.Try.prog 50 = true := by kernel_rfl
theorem t50_a : aggT Go.Proofs.Try.prog 50 = false := by kernel_rfl
theorem t50_if : isIfaceT Go.Proofs.Try.prog 50 = false := by kernel_rfl
theorem t50_p : isPtrT Go.Proofs.Try.prog 50 = true := by kernel_rfl
theorem t51_k : known Go.Proofs.Try.prog 51 = true := by kernel_rfl
theorem t51_a : aggT Go.Proofs.Try.prog 51 = false := by kernel_rfl
theorem t51_if : isIfaceT Go.Proofs.Try.prog 51 = false := by kernel_rfl
theorem t51_fn : isFuncT Go.Proofs.Try.prog 51 = true := by kernel_rfl
theorem t52_k : known Go.Proofs.Try.prog 52 = true := by kernel_rfl
theorem t52_a : aggT Go.Proofs.Try.prog 52 = false := by kernel_rfl
theorem t52_if : isIfaceT Go.Proofs.Try.prog 52 = false := by kernel_rfl
theorem t52_fn : isFuncT Go.Proofs.Try.prog 52 = true := by kernel_rfl
theorem t53_k : known Go.Proofs.Try.prog 53 = true := by kernel_rfl
theorem t53_a : aggT Go.Proofs.Try.prog 53 = false := by kernel_rfl
theorem t53_if : isIfaceT Go.Proofs.Try.prog 53 = false := by kernel_rfl
theorem t53_fn : isFuncT Go.Proofs.Try.prog 53 = true := by kernel_rfl
theorem t54_k : known Go.Proofs.Try.prog 54 = true := by kernel_rfl
theorem t54_a : aggT Go.Proofs.Try.prog 54 = false := by kernel_rfl
theorem t54_if : isIfaceT Go.Proofs.Try.prog 54 = false := by kernel_rfl
theorem t54_fn : isFuncT Go.Proofs.Try.prog 54 = true := by kernel_rfl
theorem t55_k : known Go.Proofs.Try.prog 55 = true := by kernel_rfl
theorem t55_a : aggT Go.Proofs.Try.prog 55 = true := by kernel_rfl
theorem t55_if : isIfaceT Go.Proofs.Try.prog 55 = false := by kernel_rfl
theorem t55_ea : eqAggT Go.Proofs.Try.prog 55 = true := by kernel_rfl
theorem t56_k : known Go.Proofs.Try.prog 56 = true := by kernel_rfl
theorem t56_a : aggT Go.Proofs.Try.prog 56 = true := by kernel_rfl
theorem t56_if : isIfaceT Go.Proofs.Try.prog 56 = false := by kernel_rfl
theorem t56_ea : eqAggT Go.Proofs.Try.prog 56 = true := by kernel_rfl
theorem t57_k : known Go.Proofs.Try.prog 57 = true := by kernel_rfl
theorem t57_a : aggT Go.Proofs.Try.prog 57 = false := by kernel_rfl
theorem t57_if : isIfaceT Go.Proofs.Try.prog 57 = false := by kernel_rfl
theorem t57_fn : isFuncT Go.Proofs.Try.prog 57 = true := by kernel_rfl
theorem t59_k : known Go.Proofs.Try.prog 59 = true := by kernel_rfl
theorem t59_a : aggT Go.Proofs.Try.prog 59 = false := by kernel_rfl
theorem t59_if : isIfaceT Go.Proofs.Try.prog 59 = false := by kernel_rfl
theorem t59_fn : isFuncT Go.Proofs.Try.prog 59 = true := by kernel_rfl
theorem t61_k : known Go.Proofs.Try.prog 61 = true := by kernel_rfl
theorem t61_a : aggT Go.Proofs.Try.prog 61 = false := by kernel_rfl
theorem t61_if : isIfaceT Go.Proofs.Try.prog 61 = false := by kernel_rfl
theorem t61_fn : isFuncT Go.Proofs.Try.prog 61 = true := by kernel_rfl
theorem t63_k : known Go.Proofs.Try.prog 63 = true := by kernel_rfl
theorem t63_a : aggT Go.Proofs.Try.prog 63 = false := by kernel_rfl
theorem t63_if : isIfaceT Go.Proofs.Try.prog 63 = false := by kernel_rfl
theorem t63_fn : isFuncT Go.Proofs.Try.prog 63 = true := by kernel_rfl
theorem t64_k : known Go.Proofs.Try.prog 64 = true := by kernel_rfl
theorem t64_a : aggT Go.Proofs.Try.prog 64 = false := by kernel_rfl
theorem t64_if : isIfaceT Go.Proofs.Try.prog 64 = false := by kernel_rfl
theorem t64_fn : isFuncT Go.Proofs.Try.prog 64 = true := by kernel_rfl
theorem t65_k : known Go.Proofs.Try.prog 65 = true := by kernel_rfl
theorem t65_a : aggT Go.Proofs.Try.prog 65 = false := by kernel_rfl
theorem t65_if : isIfaceT Go.Proofs.Try.prog 65 = false := by kernel_rfl
theorem t65_fn : isFuncT Go.Proofs.Try.prog 65 = true := by kernel_rfl
theorem t66_k : known Go.Proofs.Try.prog 66 = true := by kernel_rfl
theorem t66_a : aggT Go.Proofs.Try.prog 66 = false := by kernel_rfl
theorem t66_if : isIfaceT Go.Proofs.Try.prog 66 = false := by kernel_rfl
theorem t66_fn : isFuncT Go.Proofs.Try.prog 66 = true := by kernel_rfl
theorem t67_k : known Go.Proofs.Try.prog 67 = true := by kernel_rfl
theorem t67_a : aggT Go.Proofs.Try.prog 67 = false := by kernel_rfl
theorem t67_if : isIfaceT Go.Proofs.Try.prog 67 = false := by kernel_rfl
theorem t67_fn : isFuncT Go.Proofs.Try.prog 67 = true := by kernel_rfl
theorem t68_k : known Go.Proofs.Try.prog 68 = true := by kernel_rfl
theorem t68_a : aggT Go.Proofs.Try.prog 68 = false := by kernel_rfl
theorem t68_if : isIfaceT Go.Proofs.Try.prog 68 = false := by kernel_rfl
theorem t68_e : elemT Go.Proofs.Try.prog 68 = some 56 := by kernel_rfl
theorem t68_s : isStrT Go.Proofs.Try.prog 68 = false := by kernel_rfl
theorem t69_k : known Go.Proofs.Try.prog 69 = true := by kernel_rfl
theorem t69_a : aggT Go.Proofs.Try.prog 69 = false := by kernel_rfl
theorem t69_if : isIfaceT Go.Proofs.Try.prog 69 = false := by kernel_rfl
theorem t69_fn : isFuncT Go.Proofs.Try.prog 69 = true := by kernel_rfl
theorem t70_k : known Go.Proofs.Try.prog 70 = true := by kernel_rfl
theorem t70_a : aggT Go.Proofs.Try.prog 70 = false := by kernel_rfl
theorem t70_if : isIfaceT Go.Proofs.Try.prog 70 = false := by kernel_rfl
theorem t70_fn : isFuncT Go.Proofs.Try.prog 70 = true := by kernel_rfl
theorem t71_k : known Go.Proofs.Try.prog 71 = true := by kernel_rfl
theorem t71_a : aggT Go.Proofs.Try.prog 71 = false := by kernel_rfl
theorem t71_if : isIfaceT Go.Proofs.Try.prog 71 = false := by kernel_rfl
theorem t71_fn : isFuncT Go.Proofs.Try.prog 71 = true := by kernel_rfl
theorem t72_k : known Go.Proofs.Try.prog 72 = true := by kernel_rfl
theorem t72_a : aggT Go.Proofs.Try.prog 72 = false := by kernel_rfl
theorem t72_if : isIfaceT Go.Proofs.Try.prog 72 = false := by kernel_rfl
theorem t72_fn : isFuncT Go.Proofs.Try.prog 72 = true := by kernel_rfl
theorem t73_k : known Go.Proofs.Try.prog 73 = true := by kernel_rfl
theorem t73_a : aggT Go.Proofs.Try.prog 73 = false := by kernel_rfl
theorem t73_if : isIfaceT Go.Proofs.Try.prog 73 = false := by kernel_rfl
theorem t73_fn : isFuncT Go.Proofs.Try.prog 73 = true := by kernel_rfl
theorem t74_k : known Go.Proofs.Try.prog 74 = true := by kernel_rfl
theorem t74_a : aggT Go.Proofs.Try.prog 74 = false := by kernel_rfl
theorem t74_if : isIfaceT Go.Proofs.Try.prog 74 = false := by kernel_rfl
theorem t74_fn : isFuncT Go.Proofs.Try.prog 74 = true := by kernel_rfl
theorem t75_k : known Go.Proofs.Try.prog 75 = true := by kernel_rfl
theorem t75_a : aggT Go.Proofs.Try.prog 75 = true := by kernel_rfl
theorem t75_if : isIfaceT Go.Proofs.Try.prog 75 = false := by kernel_rfl
theorem t75_ea : eqAggT Go.Proofs.Try.prog 75 = true := by kernel_rfl
theorem t75_ar : arrT Go.Proofs.Try.prog 75 = some (256, 30) := by kernel_rfl
theorem t75_pl : placesT Go.Proofs.Try.prog 75 = none := by kernel_rfl
theorem t76_k : known Go.Proofs.Try.prog 76 = true := by kernel_rfl
theorem t76_a : aggT Go.Proofs.Try.prog 76 = false := by kernel_rfl
theorem t76_if : isIfaceT Go.Proofs.Try.prog 76 = false := by kernel_rfl
theorem t76_fn : isFuncT Go.Proofs.Try.prog 76 = true := by kernel_rfl
theorem t77_k : known Go.Proofs.Try.prog 77 = true := by kernel_rfl
theorem t77_a : aggT Go.Proofs.Try.prog 77 = false := by kernel_rfl
theorem t77_if : isIfaceT Go.Proofs.Try.prog 77 = false := by kernel_rfl
theorem t77_i : intT Go.Proofs.Try.prog 77 = some .u64 := by kernel_rfl
theorem t78_k : known Go.Proofs.Try.prog 78 = true := by kernel_rfl
theorem t78_a : aggT Go.Proofs.Try.prog 78 = true := by kernel_rfl
theorem t78_if : isIfaceT Go.Proofs.Try.prog 78 = false := by kernel_rfl
theorem t78_ea : eqAggT Go.Proofs.Try.prog 78 = true := by kernel_rfl
theorem t78_ar : arrT Go.Proofs.Try.prog 78 = some (256, 34) := by kernel_rfl
theorem t78_pl : placesT Go.Proofs.Try.prog 78 = none := by kernel_rfl
theorem t79_k : known Go.Proofs.Try.prog 79 = true := by kernel_rfl
theorem t79_a : aggT Go.Proofs.Try.prog 79 = true := by kernel_rfl
theorem t79_if : isIfaceT Go.Proofs.Try.prog 79 = false := by kernel_rfl
theorem t79_ea : eqAggT Go.Proofs.Try.prog 79 = true := by kernel_rfl
theorem t79_ar : arrT Go.Proofs.Try.prog 79 = some (4, 78) := by kernel_rfl
theorem t79_pl : placesT Go.Proofs.Try.prog 79 = none := by kernel_rfl
theorem t80_k : known Go.Proofs.Try.prog 80 = true := by kernel_rfl
theorem t80_a : aggT Go.Proofs.Try.prog 80 = false := by kernel_rfl
theorem t80_if : isIfaceT Go.Proofs.Try.prog 80 = false := by kernel_rfl
theorem t80_fn : isFuncT Go.Proofs.Try.prog 80 = true := by kernel_rfl
theorem t81_k : known Go.Proofs.Try.prog 81 = true := by kernel_rfl
theorem t81_a : aggT Go.Proofs.Try.prog 81 = false := by kernel_rfl
theorem t81_if : isIfaceT Go.Proofs.Try.prog 81 = false := by kernel_rfl
theorem t81_fn : isFuncT Go.Proofs.Try.prog 81 = true := by kernel_rfl
theorem t82_k : known Go.Proofs.Try.prog 82 = true := by kernel_rfl
theorem t82_a : aggT Go.Proofs.Try.prog 82 = false := by kernel_rfl
theorem t82_if : isIfaceT Go.Proofs.Try.prog 82 = false := by kernel_rfl
theorem t82_fn : isFuncT Go.Proofs.Try.prog 82 = true := by kernel_rfl
theorem t83_k : known Go.Proofs.Try.prog 83 = true := by kernel_rfl
theorem t83_a : aggT Go.Proofs.Try.prog 83 = false := by kernel_rfl
theorem t83_if : isIfaceT Go.Proofs.Try.prog 83 = false := by kernel_rfl
theorem t83_fn : isFuncT Go.Proofs.Try.prog 83 = true := by kernel_rfl
theorem t84_k : known Go.Proofs.Try.prog 84 = true := by kernel_rfl
theorem t84_a : aggT Go.Proofs.Try.prog 84 = false := by kernel_rfl
theorem t84_if : isIfaceT Go.Proofs.Try.prog 84 = false := by kernel_rfl
theorem t84_fn : isFuncT Go.Proofs.Try.prog 84 = true := by kernel_rfl
theorem t85_k : known Go.Proofs.Try.prog 85 = true := by kernel_rfl
theorem t85_a : aggT Go.Proofs.Try.prog 85 = false := by kernel_rfl
theorem t85_if : isIfaceT Go.Proofs.Try.prog 85 = false := by kernel_rfl
theorem t85_e : elemT Go.Proofs.Try.prog 85 = some 34 := by kernel_rfl
theorem t85_s : isStrT Go.Proofs.Try.prog 85 = false := by kernel_rfl
theorem t87_k : known Go.Proofs.Try.prog 87 = true := by kernel_rfl
theorem t87_a : aggT Go.Proofs.Try.prog 87 = false := by kernel_rfl
theorem t87_if : isIfaceT Go.Proofs.Try.prog 87 = false := by kernel_rfl
theorem t87_fn : isFuncT Go.Proofs.Try.prog 87 = true := by kernel_rfl
theorem t88_k : known Go.Proofs.Try.prog 88 = true := by kernel_rfl
theorem t88_a : aggT Go.Proofs.Try.prog 88 = false := by kernel_rfl
theorem t88_if : isIfaceT Go.Proofs.Try.prog 88 = false := by kernel_rfl
theorem t88_fn : isFuncT Go.Proofs.Try.prog 88 = true := by kernel_rfl
theorem t89_k : known Go.Proofs.Try.prog 89 = true := by kernel_rfl
theorem t89_a : aggT Go.Proofs.Try.prog 89 = false := by kernel_rfl
theorem t89_if : isIfaceT Go.Proofs.Try.prog 89 = false := by kernel_rfl
theorem t89_fn : isFuncT Go.Proofs.Try.prog 89 = true := by kernel_rfl
theorem t90_k : known Go.Proofs.Try.prog 90 = true := by kernel_rfl
theorem t90_a : aggT Go.Proofs.Try.prog 90 = true := by kernel_rfl
theorem t90_if : isIfaceT Go.Proofs.Try.prog 90 = false := by kernel_rfl
theorem t90_ea : eqAggT Go.Proofs.Try.prog 90 = true := by kernel_rfl
theorem t90_ar : arrT Go.Proofs.Try.prog 90 = some (8, 34) := by kernel_rfl
theorem t90_pl : placesT Go.Proofs.Try.prog 90 = none := by kernel_rfl
theorem t91_k : known Go.Proofs.Try.prog 91 = true := by kernel_rfl
theorem t91_a : aggT Go.Proofs.Try.prog 91 = false := by kernel_rfl
theorem t91_if : isIfaceT Go.Proofs.Try.prog 91 = false := by kernel_rfl
theorem t91_fn : isFuncT Go.Proofs.Try.prog 91 = true := by kernel_rfl
theorem t92_k : known Go.Proofs.Try.prog 92 = true := by kernel_rfl
theorem t92_a : aggT Go.Proofs.Try.prog 92 = true := by kernel_rfl
theorem t92_if : isIfaceT Go.Proofs.Try.prog 92 = false := by kernel_rfl
theorem t93_k : known Go.Proofs.Try.prog 93 = true := by kernel_rfl
theorem t93_a : aggT Go.Proofs.Try.prog 93 = true := by kernel_rfl
theorem t93_if : isIfaceT Go.Proofs.Try.prog 93 = false := by kernel_rfl
theorem t94_k : known Go.Proofs.Try.prog 94 = true := by kernel_rfl
theorem t94_a : aggT Go.Proofs.Try.prog 94 = false := by kernel_rfl
theorem t94_if : isIfaceT Go.Proofs.Try.prog 94 = false := by kernel_rfl
theorem t94_fn : isFuncT Go.Proofs.Try.prog 94 = true := by kernel_rfl
theorem t95_k : known Go.Proofs.Try.prog 95 = true := by kernel_rfl
theorem t95_a : aggT Go.Proofs.Try.prog 95 = false := by kernel_rfl
theorem t95_if : isIfaceT Go.Proofs.Try.prog 95 = false := by kernel_rfl
theorem t95_fn : isFuncT Go.Proofs.Try.prog 95 = true := by kernel_rfl
theorem t96_k : known Go.Proofs.Try.prog 96 = true := by kernel_rfl
theorem t96_a : aggT Go.Proofs.Try.prog 96 = false := by kernel_rfl
theorem t96_if : isIfaceT Go.Proofs.Try.prog 96 = false := by kernel_rfl
theorem t96_fn : isFuncT Go.Proofs.Try.prog 96 = true := by kernel_rfl
theorem t97_k : known Go.Proofs.Try.prog 97 = true := by kernel_rfl
theorem t97_a : aggT Go.Proofs.Try.prog 97 = true := by kernel_rfl
theorem t97_if : isIfaceT Go.Proofs.Try.prog 97 = false := by kernel_rfl
theorem t97_ea : eqAggT Go.Proofs.Try.prog 97 = true := by kernel_rfl
theorem t97_ar : arrT Go.Proofs.Try.prog 97 = some (256, 5) := by kernel_rfl
theorem t97_pl : placesT Go.Proofs.Try.prog 97 = none := by kernel_rfl
theorem t98_k : known Go.Proofs.Try.prog 98 = true := by kernel_rfl
theorem t98_a : aggT Go.Proofs.Try.prog 98 = true := by kernel_rfl
theorem t98_if : isIfaceT Go.Proofs.Try.prog 98 = false := by kernel_rfl
theorem t98_ea : eqAggT Go.Proofs.Try.prog 98 = true := by kernel_rfl
theorem t98_ar : arrT Go.Proofs.Try.prog 98 = some (256, 5) := by kernel_rfl
theorem t98_pl : placesT Go.Proofs.Try.prog 98 = none := by kernel_rfl
theorem t100_k : known Go.Proofs.Try.prog 100 = true := by kernel_rfl
theorem t100_a : aggT Go.Proofs.Try.prog 100 = false := by kernel_rfl
theorem t100_if : isIfaceT Go.Proofs.Try.prog 100 = false := by kernel_rfl
theorem t100_fn : isFuncT Go.Proofs.Try.prog 100 = true := by kernel_rfl
theorem t101_k : known Go.Proofs.Try.prog 101 = true := by kernel_rfl
theorem t101_a : aggT Go.Proofs.Try.prog 101 = false := by kernel_rfl
theorem t101_if : isIfaceT Go.Proofs.Try.prog 101 = false := by kernel_rfl
theorem t101_fn : isFuncT Go.Proofs.Try.prog 101 = true := by kernel_rfl
theorem t102_k : known Go.Proofs.Try.prog 102 = true := by kernel_rfl
theorem t102_a : aggT Go.Proofs.Try.prog 102 = true := by kernel_rfl
theorem t102_if : isIfaceT Go.Proofs.Try.prog 102 = false := by kernel_rfl
theorem t103_k : known Go.Proofs.Try.prog 103 = true := by kernel_rfl
theorem t103_a : aggT Go.Proofs.Try.prog 103 = true := by kernel_rfl
theorem t103_if : isIfaceT Go.Proofs.Try.prog 103 = false := by kernel_rfl
theorem t105_k : known Go.Proofs.Try.prog 105 = true := by kernel_rfl
theorem t105_a : aggT Go.Proofs.Try.prog 105 = false := by kernel_rfl
theorem t105_if : isIfaceT Go.Proofs.Try.prog 105 = false := by kernel_rfl
theorem t105_mp : mapT Go.Proofs.Try.prog 105 = some (.i64, 103) := by kernel_rfl
theorem t106_k : known Go.Proofs.Try.prog 106 = true := by kernel_rfl
theorem t106_a : aggT Go.Proofs.Try.prog 106 = false := by kernel_rfl
theorem t106_if : isIfaceT Go.Proofs.Try.prog 106 = false := by kernel_rfl
theorem t106_fn : isFuncT Go.Proofs.Try.prog 106 = true := by kernel_rfl
theorem t107_k : known Go.Proofs.Try.prog 107 = true := by kernel_rfl
theorem t107_a : aggT Go.Proofs.Try.prog 107 = false := by kernel_rfl
theorem t107_if : isIfaceT Go.Proofs.Try.prog 107 = false := by kernel_rfl
theorem t107_fn : isFuncT Go.Proofs.Try.prog 107 = true := by kernel_rfl
theorem t108_k : known Go.Proofs.Try.prog 108 = true := by kernel_rfl
theorem t108_a : aggT Go.Proofs.Try.prog 108 = false := by kernel_rfl
theorem t108_if : isIfaceT Go.Proofs.Try.prog 108 = false := by kernel_rfl
theorem t108_fn : isFuncT Go.Proofs.Try.prog 108 = true := by kernel_rfl
theorem t109_k : known Go.Proofs.Try.prog 109 = true := by kernel_rfl
theorem t109_a : aggT Go.Proofs.Try.prog 109 = false := by kernel_rfl
theorem t109_if : isIfaceT Go.Proofs.Try.prog 109 = false := by kernel_rfl
theorem t109_fn : isFuncT Go.Proofs.Try.prog 109 = true := by kernel_rfl
theorem t110_k : known Go.Proofs.Try.prog 110 = true := by kernel_rfl
theorem t110_a : aggT Go.Proofs.Try.prog 110 = false := by kernel_rfl
theorem t110_if : isIfaceT Go.Proofs.Try.prog 110 = false := by kernel_rfl
theorem t110_fn : isFuncT Go.Proofs.Try.prog 110 = true := by kernel_rfl
theorem t111_k : known Go.Proofs.Try.prog 111 = true := by kernel_rfl
theorem t111_a : aggT Go.Proofs.Try.prog 111 = false := by kernel_rfl
theorem t111_if : isIfaceT Go.Proofs.Try.prog 111 = false := by kernel_rfl
theorem t111_e : elemT Go.Proofs.Try.prog 111 = some 30 := by kernel_rfl
theorem t111_s : isStrT Go.Proofs.Try.prog 111 = false := by kernel_rfl
theorem t112_k : known Go.Proofs.Try.prog 112 = true := by kernel_rfl
theorem t112_a : aggT Go.Proofs.Try.prog 112 = false := by kernel_rfl
theorem t112_if : isIfaceT Go.Proofs.Try.prog 112 = false := by kernel_rfl
theorem t112_fn : isFuncT Go.Proofs.Try.prog 112 = true := by kernel_rfl
theorem t113_k : known Go.Proofs.Try.prog 113 = true := by kernel_rfl
theorem t113_a : aggT Go.Proofs.Try.prog 113 = false := by kernel_rfl
theorem t113_if : isIfaceT Go.Proofs.Try.prog 113 = false := by kernel_rfl
theorem t113_fn : isFuncT Go.Proofs.Try.prog 113 = true := by kernel_rfl
theorem t114_k : known Go.Proofs.Try.prog 114 = true := by kernel_rfl
theorem t114_a : aggT Go.Proofs.Try.prog 114 = true := by kernel_rfl
theorem t114_if : isIfaceT Go.Proofs.Try.prog 114 = false := by kernel_rfl
theorem t114_ea : eqAggT Go.Proofs.Try.prog 114 = true := by kernel_rfl
theorem t114_ar : arrT Go.Proofs.Try.prog 114 = some (64, 34) := by kernel_rfl
theorem t114_pl : placesT Go.Proofs.Try.prog 114 = none := by kernel_rfl
theorem t115_k : known Go.Proofs.Try.prog 115 = true := by kernel_rfl
theorem t115_a : aggT Go.Proofs.Try.prog 115 = false := by kernel_rfl
theorem t115_if : isIfaceT Go.Proofs.Try.prog 115 = false := by kernel_rfl
theorem t115_fn : isFuncT Go.Proofs.Try.prog 115 = true := by kernel_rfl
theorem t116_k : known Go.Proofs.Try.prog 116 = true := by kernel_rfl
theorem t116_a : aggT Go.Proofs.Try.prog 116 = false := by kernel_rfl
theorem t116_if : isIfaceT Go.Proofs.Try.prog 116 = false := by kernel_rfl
theorem t116_fn : isFuncT Go.Proofs.Try.prog 116 = true := by kernel_rfl
theorem t117_k : known Go.Proofs.Try.prog 117 = true := by kernel_rfl
theorem t117_a : aggT Go.Proofs.Try.prog 117 = false := by kernel_rfl
theorem t117_if : isIfaceT Go.Proofs.Try.prog 117 = false := by kernel_rfl
theorem t117_fn : isFuncT Go.Proofs.Try.prog 117 = true := by kernel_rfl
theorem t118_k : known Go.Proofs.Try.prog 118 = true := by kernel_rfl
theorem t118_a : aggT Go.Proofs.Try.prog 118 = false := by kernel_rfl
theorem t118_if : isIfaceT Go.Proofs.Try.prog 118 = false := by kernel_rfl
theorem t118_fn : isFuncT Go.Proofs.Try.prog 118 = true := by kernel_rfl
theorem t119_k : known Go.Proofs.Try.prog 119 = true := by kernel_rfl
theorem t119_a : aggT Go.Proofs.Try.prog 119 = false := by kernel_rfl
theorem t119_if : isIfaceT Go.Proofs.Try.prog 119 = false := by kernel_rfl
theorem t119_fn : isFuncT Go.Proofs.Try.prog 119 = true := by kernel_rfl
theorem t121_k : known Go.Proofs.Try.prog 121 = true := by kernel_rfl
theorem t121_a : aggT Go.Proofs.Try.prog 121 = false := by kernel_rfl
theorem t121_if : isIfaceT Go.Proofs.Try.prog 121 = false := by kernel_rfl
theorem t121_fn : isFuncT Go.Proofs.Try.prog 121 = true := by kernel_rfl
theorem t122_k : known Go.Proofs.Try.prog 122 = true := by kernel_rfl
theorem t122_a : aggT Go.Proofs.Try.prog 122 = false := by kernel_rfl
theorem t122_if : isIfaceT Go.Proofs.Try.prog 122 = false := by kernel_rfl
theorem t122_fn : isFuncT Go.Proofs.Try.prog 122 = true := by kernel_rfl
theorem t123_k : known Go.Proofs.Try.prog 123 = true := by kernel_rfl
theorem t123_a : aggT Go.Proofs.Try.prog 123 = true := by kernel_rfl
theorem t123_if : isIfaceT Go.Proofs.Try.prog 123 = false := by kernel_rfl
theorem t124_k : known Go.Proofs.Try.prog 124 = true := by kernel_rfl
theorem t124_a : aggT Go.Proofs.Try.prog 124 = true := by kernel_rfl
theorem t124_if : isIfaceT Go.Proofs.Try.prog 124 = false := by kernel_rfl
theorem t125_k : known Go.Proofs.Try.prog 125 = true := by kernel_rfl
theorem t125_a : aggT Go.Proofs.Try.prog 125 = true := by kernel_rfl
theorem t125_if : isIfaceT Go.Proofs.Try.prog 125 = false := by kernel_rfl
theorem t125_ar : arrT Go.Proofs.Try.prog 125 = some (0, 16) := by kernel_rfl
theorem t125_pl : placesT Go.Proofs.Try.prog 125 = none := by kernel_rfl
theorem t126_k : known Go.Proofs.Try.prog 126 = true := by kernel_rfl
theorem t126_a : aggT Go.Proofs.Try.prog 126 = true := by kernel_rfl
theorem t126_if : isIfaceT Go.Proofs.Try.prog 126 = false := by kernel_rfl
theorem t127_k : known Go.Proofs.Try.prog 127 = true := by kernel_rfl
theorem t127_a : aggT Go.Proofs.Try.prog 127 = true := by kernel_rfl
theorem t127_if : isIfaceT Go.Proofs.Try.prog 127 = false := by kernel_rfl
theorem t128_k : known Go.Proofs.Try.prog 128 = true := by kernel_rfl
theorem t128_a : aggT Go.Proofs.Try.prog 128 = false := by kernel_rfl
theorem t128_if : isIfaceT Go.Proofs.Try.prog 128 = false := by kernel_rfl
theorem t128_fn : isFuncT Go.Proofs.Try.prog 128 = true := by kernel_rfl
theorem t129_k : known Go.Proofs.Try.prog 129 = true := by kernel_rfl
theorem t129_a : aggT Go.Proofs.Try.prog 129 = false := by kernel_rfl
theorem t129_if : isIfaceT Go.Proofs.Try.prog 129 = false := by kernel_rfl
theorem t129_i : intT Go.Proofs.Try.prog 129 = some .u8 := by kernel_rfl
theorem t130_k : known Go.Proofs.Try.prog 130 = true := by kernel_rfl
theorem t130_a : aggT Go.Proofs.Try.prog 130 = false := by kernel_rfl
theorem t130_if : isIfaceT Go.Proofs.Try.prog 130 = false := by kernel_rfl
theorem t130_i : intT Go.Proofs.Try.prog 130 = some .u8 := by kernel_rfl
theorem t131_k : known Go.Proofs.Try.prog 131 = true := by kernel_rfl
theorem t131_a : aggT Go.Proofs.Try.prog 131 = false := by kernel_rfl
theorem t131_if : isIfaceT Go.Proofs.Try.prog 131 = false := by kernel_rfl
theorem t131_fn : isFuncT Go.Proofs.Try.prog 131 = true := by kernel_rfl
theorem t132_k : known Go.Proofs.Try.prog 132 = true := by kernel_rfl
theorem t132_a : aggT Go.Proofs.Try.prog 132 = false := by kernel_rfl
theorem t132_if : isIfaceT Go.Proofs.Try.prog 132 = false := by kernel_rfl
theorem t132_p : isPtrT Go.Proofs.Try.prog 132 = true := by kernel_rfl
theorem t133_k : known Go.Proofs.Try.prog 133 = true := by kernel_rfl
theorem t133_a : aggT Go.Proofs.Try.prog 133 = false := by kernel_rfl
theorem t133_if : isIfaceT Go.Proofs.Try.prog 133 = false := by kernel_rfl
theorem t133_i : intT Go.Proofs.Try.prog 133 = some .i32 := by kernel_rfl
theorem t134_k : known Go.Proofs.Try.prog 134 = true := by kernel_rfl
theorem t134_a : aggT Go.Proofs.Try.prog 134 = false := by kernel_rfl
theorem t134_if : isIfaceT Go.Proofs.Try.prog 134 = false := by kernel_rfl
theorem t134_i : intT Go.Proofs.Try.prog 134 = some .i32 := by kernel_rfl
theorem t135_k : known Go.Proofs.Try.prog 135 = true := by kernel_rfl
theorem t135_a : aggT Go.Proofs.Try.prog 135 = true := by kernel_rfl
theorem t135_if : isIfaceT Go.Proofs.Try.prog 135 = false := by kernel_rfl
theorem t136_k : known Go.Proofs.Try.prog 136 = true := by kernel_rfl
theorem t136_a : aggT Go.Proofs.Try.prog 136 = true := by kernel_rfl
theorem t136_if : isIfaceT Go.Proofs.Try.prog 136 = false := by kernel_rfl
theorem t137_k : known Go.Proofs.Try.prog 137 = true := by kernel_rfl
theorem t137_a : aggT Go.Proofs.Try.prog 137 = false := by kernel_rfl
theorem t137_if : isIfaceT Go.Proofs.Try.prog 137 = false := by kernel_rfl
theorem t1_sz : sizeT Go.Proofs.Try.prog 1 = some 1 := by kernel_rfl
theorem t1_by : bytesT Go.Proofs.Try.prog 1 = some 8 := by kernel_rfl
theorem t1_z : zav Go.Proofs.Try.prog 1 = some [.nilf] := by kernel_rfl
theorem t1_d : dflt Go.Proofs.Try.prog 1 = .nilf := by kernel_rfl
theorem t1_zv : zval Go.Proofs.Try.prog 1 = some (.nilf) := by kernel_rfl
theorem t2_sz : sizeT Go.Proofs.Try.prog 2 = some 1 := by kernel_rfl
theorem t2_by : bytesT Go.Proofs.Try.prog 2 = some 8 := by kernel_rfl
theorem t2_z : zav Go.Proofs.Try.prog 2 = some [.int .i64 0] := by kernel_rfl
theorem t2_d : dflt Go.Proofs.Try.prog 2 = .int .i64 0 := by kernel_rfl
theorem t2_zv : zval Go.Proofs.Try.prog 2 = some (.int .i64 0) := by kernel_rfl
theorem t3_sz : sizeT Go.Proofs.Try.prog 3 = some 1 := by kernel_rfl
theorem t3_by : bytesT Go.Proofs.Try.prog 3 = some 8 := by kernel_rfl
theorem t3_z : zav Go.Proofs.Try.prog 3 = some [.int .i64 0] := by kernel_rfl
theorem t3_d : dflt Go.Proofs.Try.prog 3 = .int .i64 0 := by kernel_rfl
theorem t3_zv : zval Go.Proofs.Try.prog 3 = some (.int .i64 0) := by kernel_rfl
theorem t4_sz : sizeT Go.Proofs.Try.prog 4 = some 1 := by kernel_rfl
theorem t4_by : bytesT Go.Proofs.Try.prog 4 = some 1 := by kernel_rfl
theorem t4_z : zav Go.Proofs.Try.prog 4 = some [.bool false] := by kernel_rfl
theorem t4_d : dflt Go.Proofs.Try.prog 4 = .bool false := by kernel_rfl
theorem t4_zv : zval Go.Proofs.Try.prog 4 = some (.bool false) := by kernel_rfl
theorem t5_sz : sizeT Go.Proofs.Try.prog 5 = some 1 := by kernel_rfl
theorem t5_by : bytesT Go.Proofs.Try.prog 5 = some 1 := by kernel_rfl
theorem t5_z : zav Go.Proofs.Try.prog 5 = some [.int .u8 0] := by kernel_rfl
theorem t5_d : dflt Go.Proofs.Try.prog 5 = .int .u8 0 := by kernel_rfl
theorem t5_zv : zval Go.Proofs.Try.prog 5 = some (.int .u8 0) := by kernel_rfl
theorem t6_sz : sizeT Go.Proofs.Try.prog 6 = some 1 := by kernel_rfl
theorem t6_by : bytesT Go.Proofs.Try.prog 6 = some 1 := by kernel_rfl
theorem t6_z : zav Go.Proofs.Try.prog 6 = some [.int .u8 0] := by kernel_rfl
theorem t6_d : dflt Go.Proofs.Try.prog 6 = .int .u8 0 := by kernel_rfl
theorem t6_zv : zval Go.Proofs.Try.prog 6 = some (.int .u8 0) := by kernel_rfl
theorem t7_sz : sizeT Go.Proofs.Try.prog 7 = some 4 := by kernel_rfl
theorem t7_z : zav Go.Proofs.Try.prog 7 = some [.int .i64 0, .int .i64 0, .bool false, .int .u8 0] := by kernel_rfl
theorem t7_zv : zval Go.Proofs.Try.prog 7 = some (.agg [.int .i64 0, .int .i64 0, .bool false, .int .u8 0]) := by kernel_rfl
theorem t7_f0 : fieldT Go.Proofs.Try.prog 7 0 = some (0, 2) := by kernel_rfl
theorem t7_f1 : fieldT Go.Proofs.Try.prog 7 1 = some (1, 3) := by kernel_rfl
theorem t7_f2 : fieldT Go.Proofs.Try.prog 7 2 = some (2, 4) := by kernel_rfl
theorem t7_f3 : fieldT Go.Proofs.Try.prog 7 3 = some (3, 6) := by kernel_rfl
theorem t7_pl : placesT Go.Proofs.Try.prog 7 = some [(0, 1), (1, 1), (2, 1), (3, 1)] := by kernel_rfl
theorem t8_sz : sizeT Go.Proofs.Try.prog 8 = some 4 := by kernel_rfl
theorem t8_z : zav Go.Proofs.Try.prog 8 = some [.int .i64 0, .int .i64 0, .bool false, .int .u8 0] := by kernel_rfl
theorem t8_zv : zval Go.Proofs.Try.prog 8 = some (.agg [.int .i64 0, .int .i64 0, .bool false, .int .u8 0]) := by kernel_rfl
theorem t8_f0 : fieldT Go.Proofs.Try.prog 8 0 = some (0, 2) := by kernel_rfl
theorem t8_f1 : fieldT Go.Proofs.Try.prog 8 1 = some (1, 3) := by kernel_rfl
theorem t8_f2 : fieldT Go.Proofs.Try.prog 8 2 = some (2, 4) := by kernel_rfl
theorem t8_f3 : fieldT Go.Proofs.Try.prog 8 3 = some (3, 6) := by kernel_rfl
theorem t8_pl : placesT Go.Proofs.Try.prog 8 = some [(0, 1), (1, 1), (2, 1), (3, 1)] := by kernel_rfl
theorem t9_sz : sizeT Go.Proofs.Try.prog 9 = some 1 := by kernel_rfl
theorem t9_by : bytesT Go.Proofs.Try.prog 9 = some 16 := by kernel_rfl
theorem t9_z : zav Go.Proofs.Try.prog 9 = some [.str ⟨#[]⟩] := by kernel_rfl
theorem t9_d : dflt Go.Proofs.Try.prog 9 = .str ⟨#[]⟩ := by kernel_rfl
theorem t9_zv : zval Go.Proofs.Try.prog 9 = some (.str ⟨#[]⟩) := by kernel_rfl
theorem t10_sz : sizeT Go.Proofs.Try.prog 10 = some 1 := by kernel_rfl
theorem t10_by : bytesT Go.Proofs.Try.prog 10 = some 16 := by kernel_rfl
theorem t10_z : zav Go.Proofs.Try.prog 10 = some [.str ⟨#[]⟩] := by kernel_rfl
theorem t10_d : dflt Go.Proofs.Try.prog 10 = .str ⟨#[]⟩ := by kernel_rfl
theorem t10_zv : zval Go.Proofs.Try.prog 10 = some (.str ⟨#[]⟩) := by kernel_rfl
theorem t11_sz : sizeT Go.Proofs.Try.prog 11 = some 1 := by kernel_rfl
theorem t11_by : bytesT Go.Proofs.Try.prog 11 = some 16 := by kernel_rfl
theorem t11_z : zav Go.Proofs.Try.prog 11 = some [.str ⟨#[]⟩] := by kernel_rfl
theorem t11_d : dflt Go.Proofs.Try.prog 11 = .str ⟨#[]⟩ := by kernel_rfl
theorem t11_zv : zval Go.Proofs.Try.prog 11 = some (.str ⟨#[]⟩) := by kernel_rfl
theorem t12_sz : sizeT Go.Proofs.Try.prog 12 = some 1 := by kernel_rfl
theorem t12_by : bytesT Go.Proofs.Try.prog 12 = some 8 := by kernel_rfl
theorem t12_z : zav Go.Proofs.Try.prog 12 = some [.int .u64 0] := by kernel_rfl
theorem t12_d : dflt Go.Proofs.Try.prog 12 = .int .u64 0 := by kernel_rfl
theorem t12_zv : zval Go.Proofs.Try.prog 12 = some (.int .u64 0) := by kernel_rfl
theorem t13_sz : sizeT Go.Proofs.Try.prog 13 = some 2 := by kernel_rfl
theorem t13_z : zav Go.Proofs.Try.prog 13 = some [.str ⟨#[]⟩, .int .u64 0] := by kernel_rfl
theorem t13_zv : zval Go.Proofs.Try.prog 13 = some (.agg [.str ⟨#[]⟩, .int .u64 0]) := by kernel_rfl
theorem t13_f0 : fieldT Go.Proofs.Try.prog 13 0 = some (0, 9) := by kernel_rfl
theorem t13_f1 : fieldT Go.Proofs.Try.prog 13 1 = some (1, 12) := by kernel_rfl
theorem t13_pl : placesT Go.Proofs.Try.prog 13 = some [(0, 1), (1, 1)] := by kernel_rfl
theorem t14_sz : sizeT Go.Proofs.Try.prog 14 = some 2 := by kernel_rfl
theorem t14_z : zav Go.Proofs.Try.prog 14 = some [.str ⟨#[]⟩, .int .u64 0] := by kernel_rfl
theorem t14_zv : zval Go.Proofs.Try.prog 14 = some (.agg [.str ⟨#[]⟩, .int .u64 0]) := by kernel_rfl
theorem t14_f0 : fieldT Go.Proofs.Try.prog 14 0 = some (0, 9) := by kernel_rfl
theorem t14_f1 : fieldT Go.Proofs.Try.prog 14 1 = some (1, 12) := by kernel_rfl
theorem t14_pl : placesT Go.Proofs.Try.prog 14 = some [(0, 1), (1, 1)] := by kernel_rfl
theorem t15_sz : sizeT Go.Proofs.Try.prog 15 = some 1 := by kernel_rfl
theorem t15_by : bytesT Go.Proofs.Try.prog 15 = some 8 := by kernel_rfl
theorem t15_z : zav Go.Proofs.Try.prog 15 = some [.nilp] := by kernel_rfl
theorem t15_d : dflt Go.Proofs.Try.prog 15 = .nilp := by kernel_rfl
theorem t15_zv : zval Go.Proofs.Try.prog 15 = some (.nilp) := by kernel_rfl
theorem t16_sz : sizeT Go.Proofs.Try.prog 16 = some 1 := by kernel_rfl
theorem t16_by : bytesT Go.Proofs.Try.prog 16 = some 8 := by kernel_rfl
theorem t16_z : zav Go.Proofs.Try.prog 16 = some [.nilp] := by kernel_rfl
theorem t16_d : dflt Go.Proofs.Try.prog 16 = .nilp := by kernel_rfl
theorem t16_zv : zval Go.Proofs.Try.prog 16 = some (.nilp) := by kernel_rfl
theorem t17_sz : sizeT Go.Proofs.Try.prog 17 = some 1 := by kernel_rfl
theorem t17_by : bytesT Go.Proofs.Try.prog 17 = some 8 := by kernel_rfl
theorem t17_z : zav Go.Proofs.Try.prog 17 = some [.nilp] := by kernel_rfl
theorem t17_d : dflt Go.Proofs.Try.prog 17 = .nilp := by kernel_rfl
theorem t17_zv : zval Go.Proofs.Try.prog 17 = some (.nilp) := by kernel_rfl
theorem t18_sz : sizeT Go.Proofs.Try.prog 18 = some 1 := by kernel_rfl
theorem t18_z : zav Go.Proofs.Try.prog 18 = some [.nilp] := by kernel_rfl
theorem t18_zv : zval Go.Proofs.Try.prog 18 = some (.agg [.nilp]) := by kernel_rfl
theorem t18_f0 : fieldT Go.Proofs.Try.prog 18 0 = some (0, 17) := by kernel_rfl
theorem t18_pl : placesT Go.Proofs.Try.prog 18 = some [(0, 1)] := by kernel_rfl
theorem t19_sz : sizeT Go.Proofs.Try.prog 19 = some 1 := by kernel_rfl
theorem t19_z : zav Go.Proofs.Try.prog 19 = some [.nilp] := by kernel_rfl
theorem t19_zv : zval Go.Proofs.Try.prog 19 = some (.agg [.nilp]) := by kernel_rfl
theorem t19_f0 : fieldT Go.Proofs.Try.prog 19 0 = some (0, 17) := by kernel_rfl
theorem t19_pl : placesT Go.Proofs.Try.prog 19 = some [(0, 1)] := by kernel_rfl
theorem t20_sz : sizeT Go.Proofs.Try.prog 20 = some 1 := by kernel_rfl
theorem t20_by : bytesT Go.Proofs.Try.prog 20 = some 16 := by kernel_rfl
theorem t20_z : zav Go.Proofs.Try.prog 20 = some [.nili] := by kernel_rfl
theorem t20_d : dflt Go.Proofs.Try.prog 20 = .nili := by kernel_rfl
theorem t20_zv : zval Go.Proofs.Try.prog 20 = some (.nili) := by kernel_rfl
theorem t21_sz : sizeT Go.Proofs.Try.prog 21 = some 1 := by kernel_rfl
theorem t21_by : bytesT Go.Proofs.Try.prog 21 = some 4 := by kernel_rfl
theorem t21_z : zav Go.Proofs.Try.prog 21 = some [.int .i32 0] := by kernel_rfl
theorem t21_d : dflt Go.Proofs.Try.prog 21 = .int .i32 0 := by kernel_rfl
theorem t21_zv : zval Go.Proofs.Try.prog 21 = some (.int .i32 0) := by kernel_rfl
theorem t22_sz : sizeT Go.Proofs.Try.prog 22 = some 1 := by kernel_rfl
theorem t22_by : bytesT Go.Proofs.Try.prog 22 = some 24 := by kernel_rfl
theorem t22_z : zav Go.Proofs.Try.prog 22 = some [.nils] := by kernel_rfl
theorem t22_d : dflt Go.Proofs.Try.prog 22 = .nils := by kernel_rfl
theorem t22_zv : zval Go.Proofs.Try.prog 22 = some (.nils) := by kernel_rfl
theorem t23_sz : sizeT Go.Proofs.Try.prog 23 = some 1 := by kernel_rfl
theorem t23_by : bytesT Go.Proofs.Try.prog 23 = some 8 := by kernel_rfl
theorem t23_z : zav Go.Proofs.Try.prog 23 = some [.nilf] := by kernel_rfl
theorem t23_d : dflt Go.Proofs.Try.prog 23 = .nilf := by kernel_rfl
theorem t23_zv : zval Go.Proofs.Try.prog 23 = some (.nilf) := by kernel_rfl
theorem t24_sz : sizeT Go.Proofs.Try.prog 24 = some 1 := by kernel_rfl
theorem t24_by : bytesT Go.Proofs.Try.prog 24 = some 8 := by kernel_rfl
theorem t24_z : zav Go.Proofs.Try.prog 24 = some [.int .i64 0] := by kernel_rfl
theorem t24_d : dflt Go.Proofs.Try.prog 24 = .int .i64 0 := by kernel_rfl
theorem t24_zv : zval Go.Proofs.Try.prog 24 = some (.int .i64 0) := by kernel_rfl
theorem t26_sz : sizeT Go.Proofs.Try.prog 26 = some 1 := by kernel_rfl
theorem t26_by : bytesT Go.Proofs.Try.prog 26 = some 8 := by kernel_rfl
theorem t26_z : zav Go.Proofs.Try.prog 26 = some [.nilf] := by kernel_rfl
theorem t26_d : dflt Go.Proofs.Try.prog 26 = .nilf := by kernel_rfl
theorem t26_zv : zval Go.Proofs.Try.prog 26 = some (.nilf) := by kernel_rfl
theorem t27_sz : sizeT Go.Proofs.Try.prog 27 = some 1 := by kernel_rfl
theorem t27_by : bytesT Go.Proofs.Try.prog 27 = some 8 := by kernel_rfl
theorem t27_z : zav Go.Proofs.Try.prog 27 = some [.nilf] := by kernel_rfl
theorem t27_d : dflt Go.Proofs.Try.prog 27 = .nilf := by kernel_rfl
theorem t27_zv : zval Go.Proofs.Try.prog 27 = some (.nilf) := by kernel_rfl
theorem t28_sz : sizeT Go.Proofs.Try.prog 28 = some 1 := by kernel_rfl
theorem t28_by : bytesT Go.Proofs.Try.prog 28 = some 8 := by kernel_rfl
theorem t28_z : zav Go.Proofs.Try.prog 28 = some [.nilf] := by kernel_rfl
theorem t28_d : dflt Go.Proofs.Try.prog 28 = .nilf := by kernel_rfl
theorem t28_zv : zval Go.Proofs.Try.prog 28 = some (.nilf) := by kernel_rfl
theorem t29_sz : sizeT Go.Proofs.Try.prog 29 = some 1 := by kernel_rfl
theorem t29_by : bytesT Go.Proofs.Try.prog 29 = some 8 := by kernel_rfl
theorem t29_z : zav Go.Proofs.Try.prog 29 = some [.nilf] := by kernel_rfl
theorem t29_d : dflt Go.Proofs.Try.prog 29 = .nilf := by kernel_rfl
theorem t29_zv : zval Go.Proofs.Try.prog 29 = some (.nilf) := by kernel_rfl
theorem t30_sz : sizeT Go.Proofs.Try.prog 30 = some 1 := by kernel_rfl
theorem t30_by : bytesT Go.Proofs.Try.prog 30 = some 8 := by kernel_rfl
theorem t30_z : zav Go.Proofs.Try.prog 30 = some [.int .u64 0] := by kernel_rfl
theorem t30_d : dflt Go.Proofs.Try.prog 30 = .int .u64 0 := by kernel_rfl
theorem t30_zv : zval Go.Proofs.Try.prog 30 = some (.int .u64 0) := by kernel_rfl
theorem t31_sz : sizeT Go.Proofs.Try.prog 31 = some 1 := by kernel_rfl
theorem t31_by : bytesT Go.Proofs.Try.prog 31 = some 8 := by kernel_rfl
theorem t31_z : zav Go.Proofs.Try.prog 31 = some [.nilf] := by kernel_rfl
theorem t31_d : dflt Go.Proofs.Try.prog 31 = .nilf := by kernel_rfl
theorem t31_zv : zval Go.Proofs.Try.prog 31 = some (.nilf) := by kernel_rfl
theorem t32_sz : sizeT Go.Proofs.Try.prog 32 = some 1 := by kernel_rfl
theorem t32_by : bytesT Go.Proofs.Try.prog 32 = some 8 := by kernel_rfl
theorem t32_z : zav Go.Proofs.Try.prog 32 = some [.nilf] := by kernel_rfl
theorem t32_d : dflt Go.Proofs.Try.prog 32 = .nilf := by kernel_rfl
theorem t32_zv : zval Go.Proofs.Try.prog 32 = some (.nilf) := by kernel_rfl
theorem t33_sz : sizeT Go.Proofs.Try.prog 33 = some 1 := by kernel_rfl
theorem t33_by : bytesT Go.Proofs.Try.prog 33 = some 8 := by kernel_rfl
theorem t33_z : zav Go.Proofs.Try.prog 33 = some [.nilf] := by kernel_rfl
theorem t33_d : dflt Go.Proofs.Try.prog 33 = .nilf := by kernel_rfl
theorem t33_zv : zval Go.Proofs.Try.prog 33 = some (.nilf) := by kernel_rfl
theorem t34_sz : sizeT Go.Proofs.Try.prog 34 = some 1 := by kernel_rfl
theorem t34_by : bytesT Go.Proofs.Try.prog 34 = some 4 := by kernel_rfl
theorem t34_z : zav Go.Proofs.Try.prog 34 = some [.int .u32 0] := by kernel_rfl
theorem t34_d : dflt Go.Proofs.Try.prog 34 = .int .u32 0 := by kernel_rfl
theorem t34_zv : zval Go.Proofs.Try.prog 34 = some (.int .u32 0) := by kernel_rfl
theorem t35_sz : sizeT Go.Proofs.Try.prog 35 = some 1 := by kernel_rfl
theorem t35_by : bytesT Go.Proofs.Try.prog 35 = some 8 := by kernel_rfl
theorem t35_z : zav Go.Proofs.Try.prog 35 = some [.nilf] := by kernel_rfl
theorem t35_d : dflt Go.Proofs.Try.prog 35 = .nilf := by kernel_rfl
theorem t35_zv : zval Go.Proofs.Try.prog 35 = some (.nilf) := by kernel_rfl
theorem t36_sz : sizeT Go.Proofs.Try.prog 36 = some 1 := by kernel_rfl
theorem t36_by : bytesT Go.Proofs.Try.prog 36 = some 8 := by kernel_rfl
theorem t36_z : zav Go.Proofs.Try.prog 36 = some [.nilf] := by kernel_rfl
theorem t36_d : dflt Go.Proofs.Try.prog 36 = .nilf := by kernel_rfl
theorem t36_zv : zval Go.Proofs.Try.prog 36 = some (.nilf) := by kernel_rfl
theorem t37_sz : sizeT Go.Proofs.Try.prog 37 = some 1 := by kernel_rfl
theorem t37_by : bytesT Go.Proofs.Try.prog 37 = some 8 := by kernel_rfl
theorem t37_z : zav Go.Proofs.Try.prog 37 = some [.nilf] := by kernel_rfl
theorem t37_d : dflt Go.Proofs.Try.prog 37 = .nilf := by kernel_rfl
theorem t37_zv : zval Go.Proofs.Try.prog 37 = some (.nilf) := by kernel_rfl
theorem t38_sz : sizeT Go.Proofs.Try.prog 38 = some 1 := by kernel_rfl
theorem t38_by : bytesT Go.Proofs.Try.prog 38 = some 8 := by kernel_rfl
theorem t38_z : zav Go.Proofs.Try.prog 38 = some [.nilf] := by kernel_rfl
theorem t38_d : dflt Go.Proofs.Try.prog 38 = .nilf := by kernel_rfl
theorem t38_zv : zval Go.Proofs.Try.prog 38 = some (.nilf) := by kernel_rfl
theorem t39_sz : sizeT Go.Proofs.Try.prog 39 = some 1 := by kernel_rfl
theorem t39_by : bytesT Go.Proofs.Try.prog 39 = some 2 := by kernel_rfl
theorem t39_z : zav Go.Proofs.Try.prog 39 = some [.int .u16 0] := by kernel_rfl
theorem t39_d : dflt Go.Proofs.Try.prog 39 = .int .u16 0 := by kernel_rfl
theorem t39_zv : zval Go.Proofs.Try.prog 39 = some (.int .u16 0) := by kernel_rfl
theorem t40_sz : sizeT Go.Proofs.Try.prog 40 = some 1 := by kernel_rfl
theorem t40_by : bytesT Go.Proofs.Try.prog 40 = some 8 := by kernel_rfl
theorem t40_z : zav Go.Proofs.Try.prog 40 = some [.nilf] := by kernel_rfl
theorem t40_d : dflt Go.Proofs.Try.prog 40 = .nilf := by kernel_rfl
theorem t40_zv : zval Go.Proofs.Try.prog 40 = some (.nilf) := by kernel_rfl
theorem t41_sz : sizeT Go.Proofs.Try.prog 41 = some 1 := by kernel_rfl
theorem t41_by : bytesT Go.Proofs.Try.prog 41 = some 8 := by kernel_rfl
theorem t41_z : zav Go.Proofs.Try.prog 41 = some [.nilf] := by kernel_rfl
theorem t41_d : dflt Go.Proofs.Try.prog 41 = .nilf := by kernel_rfl
theorem t41_zv : zval Go.Proofs.Try.prog 41 = some (.nilf) := by kernel_rfl
theorem t42_sz : sizeT Go.Proofs.Try.prog 42 = some 1 := by kernel_rfl
theorem t42_by : bytesT Go.Proofs.Try.prog 42 = some 8 := by kernel_rfl
theorem t42_z : zav Go.Proofs.Try.prog 42 = some [.nilf] := by kernel_rfl
theorem t42_d : dflt Go.Proofs.Try.prog 42 = .nilf := by kernel_rfl
theorem t42_zv : zval Go.Proofs.Try.prog 42 = some (.nilf) := by kernel_rfl
theorem t43_sz : sizeT Go.Proofs.Try.prog 43 = some 1 := by kernel_rfl
theorem t43_by : bytesT Go.Proofs.Try.prog 43 = some 8 := by kernel_rfl
theorem t43_z : zav Go.Proofs.Try.prog 43 = some [.nilf] := by kernel_rfl
theorem t43_d : dflt Go.Proofs.Try.prog 43 = .nilf := by kernel_rfl
theorem t43_zv : zval Go.Proofs.Try.prog 43 = some (.nilf) := by kernel_rfl
theorem t44_sz : sizeT Go.Proofs.Try.prog 44 = some 1 := by kernel_rfl
theorem t44_by : bytesT Go.Proofs.Try.prog 44 = some 8 := by kernel_rfl
theorem t44_z : zav Go.Proofs.Try.prog 44 = some [.nilf] := by kernel_rfl
theorem t44_d : dflt Go.Proofs.Try.prog 44 = .nilf := by kernel_rfl
theorem t44_zv : zval Go.Proofs.Try.prog 44 = some (.nilf) := by kernel_rfl
theorem t45_sz : sizeT Go.Proofs.Try.prog 45 = some 32 := by kernel_rfl
theorem t45_by : bytesT Go.Proofs.Try.prog 45 = some 32 := by kernel_rfl
theorem t45_z : zav Go.Proofs.Try.prog 45 = some (List.replicate 32 (.int .u8 0)) := by kernel_rfl
theorem t45_zv : zval Go.Proofs.Try.prog 45 = some (.agg (List.replicate 32 (.int .u8 0))) := by kernel_rfl
theorem t46_sz : sizeT Go.Proofs.Try.prog 46 = some 1 := by kernel_rfl
theorem t46_by : bytesT Go.Proofs.Try.prog 46 = some 8 := by kernel_rfl
theorem t46_z : zav Go.Proofs.Try.prog 46 = some [.nilf] := by kernel_rfl
theorem t46_d : dflt Go.Proofs.Try.prog 46 = .nilf := by kernel_rfl
theorem t46_zv : zval Go.Proofs.Try.prog 46 = some (.nilf) := by kernel_rfl
theorem t47_sz : sizeT Go.Proofs.Try.prog 47 = some 1 := by kernel_rfl
theorem t47_by : bytesT Go.Proofs.Try.prog 47 = some 8 := by kernel_rfl
theorem t47_z : zav Go.Proofs.Try.prog 47 = some [.nilf] := by kernel_rfl
theorem t47_d : dflt Go.Proofs.Try.prog 47 = .nilf := by kernel_rfl
theorem t47_zv : zval Go.Proofs.Try.prog 47 = some (.nilf) := by kernel_rfl
theorem t48_sz : sizeT Go.Proofs.Try.prog 48 = some 1 := by kernel_rfl
theorem t48_by : bytesT Go.Proofs.Try.prog 48 = some 8 := by kernel_rfl
theorem t48_z : zav Go.Proofs.Try.prog 48 = some [.nilf] := by kernel_rfl
theorem t48_d : dflt Go.Proofs.Try.prog 48 = .nilf := by kernel_rfl
theorem t48_zv : zval Go.Proofs.Try.prog 48 = some (.nilf) := by kernel_rfl
theorem t49_sz : sizeT Go.Proofs.Try.prog 49 = some 1 := by kernel_rfl
theorem t49_by : bytesT Go.Proofs.Try.prog 49 = some 24 := by kernel_rfl
theorem t49_z : zav Go.Proofs.Try.prog 49 = some [.nils] := by kernel_rfl
theorem t49_d : dflt Go.Proofs.Try.prog 49 = .nils := by kernel_rfl
theorem t49_zv : zval Go.Proofs.Try.prog 49 = some (.nils) := by kernel_rfl
theorem t50_sz : sizeT Go.Proofs.Try.prog 50 = some 1 := by kernel_rfl
theorem t50_by : bytesT Go.Proofs.Try.prog 50 = some 8 := by kernel_rfl
theorem t50_z : zav Go.Proofs.Try.prog 50 = some [.nilp] := by kernel_rfl
theorem t50_d : dflt Go.Proofs.Try.prog 50 = .nilp := by kernel_rfl
theorem t50_zv : zval Go.Proofs.Try.prog 50 = some (.nilp) := by kernel_rfl
theorem t51_sz : sizeT Go.Proofs.Try.prog 51 = some 1 := by kernel_rfl
theorem t51_by : bytesT Go.Proofs.Try.prog 51 = some 8 := by kernel_rfl
theorem t51_z : zav Go.Proofs.Try.prog 51 = some [.nilf] := by kernel_rfl
theorem t51_d : dflt Go.Proofs.Try.prog 51 = .nilf := by kernel_rfl
theorem t51_zv : zval Go.Proofs.Try.prog 51 = some (.nilf) := by kernel_rfl
theorem t52_sz : sizeT Go.Proofs.Try.prog 52 = some 1 := by kernel_rfl
theorem t52_by : bytesT Go.Proofs.Try.prog 52 = some 8 := by kernel_rfl
theorem t52_z : zav Go.Proofs.Try.prog 52 = some [.nilf] := by kernel_rfl
theorem t52_d : dflt Go.Proofs.Try.prog 52 = .nilf := by kernel_rfl
theorem t52_zv : zval Go.Proofs.Try.prog 52 = some (.nilf) := by kernel_rfl
theorem t53_sz : sizeT Go.Proofs.Try.prog 53 = some 1 := by kernel_rfl
theorem t53_by : bytesT Go.Proofs.Try.prog 53 = some 8 := by kernel_rfl
theorem t53_z : zav Go.Proofs.Try.prog 53 = some [.nilf] := by kernel_rfl
theorem t53_d : dflt Go.Proofs.Try.prog 53 = .nilf := by kernel_rfl
theorem t53_zv : zval Go.Proofs.Try.prog 53 = some (.nilf) := by kernel_rfl
theorem t54_sz : sizeT Go.Proofs.Try.prog 54 = some 1 := by kernel_rfl
theorem t54_by : bytesT Go.Proofs.Try.prog 54 = some 8 := by kernel_rfl
theorem t54_z : zav Go.Proofs.Try.prog 54 = some [.nilf] := by kernel_rfl
theorem t54_d : dflt Go.Proofs.Try.prog 54 = .nilf := by kernel_rfl
theorem t54_zv : zval Go.Proofs.Try.prog 54 = some (.nilf) := by kernel_rfl
theorem t55_sz : sizeT Go.Proofs.Try.prog 55 = some 2 := by kernel_rfl
theorem t55_z : zav Go.Proofs.Try.prog 55 = some [.int .i64 0, .int .u32 0] := by kernel_rfl
theorem t55_zv : zval Go.Proofs.Try.prog 55 = some (.agg [.int .i64 0, .int .u32 0]) := by kernel_rfl
theorem t55_f0 : fieldT Go.Proofs.Try.prog 55 0 = some (0, 3) := by kernel_rfl
theorem t55_f1 : fieldT Go.Proofs.Try.prog 55 1 = some (1, 34) := by kernel_rfl
theorem t55_pl : placesT Go.Proofs.Try.prog 55 = some [(0, 1), (1, 1)] := by kernel_rfl
theorem t56_sz : sizeT Go.Proofs.Try.prog 56 = some 2 := by kernel_rfl
theorem t56_z : zav Go.Proofs.Try.prog 56 = some [.int .i64 0, .int .u32 0] := by kernel_rfl
theorem t56_zv : zval Go.Proofs.Try.prog 56 = some (.agg [.int .i64 0, .int .u32 0]) := by kernel_rfl
theorem t56_f0 : fieldT Go.Proofs.Try.prog 56 0 = some (0, 3) := by kernel_rfl
theorem t56_f1 : fieldT Go.Proofs.Try.prog 56 1 = some (1, 34) := by kernel_rfl
theorem t56_pl : placesT Go.Proofs.Try.prog 56 = some [(0, 1), (1, 1)] := by kernel_rfl
theorem t57_sz : sizeT Go.Proofs.Try.prog 57 = some 1 := by kernel_rfl
theorem t57_by : bytesT Go.Proofs.Try.prog 57 = some 8 := by kernel_rfl
theorem t57_z : zav Go.Proofs.Try.prog 57 = some [.nilf] := by kernel_rfl
theorem t57_d : dflt Go.Proofs.Try.prog 57 = .nilf := by kernel_rfl
theorem t57_zv : zval Go.Proofs.Try.prog 57 = some (.nilf) := by kernel_rfl
theorem t59_sz : sizeT Go.Proofs.Try.prog 59 = some 1 := by kernel_rfl
theorem t59_by : bytesT Go.Proofs.Try.prog 59 = some 8 := by kernel_rfl
theorem t59_z : zav Go.Proofs.Try.prog 59 = some [.nilf] := by kernel_rfl
theorem t59_d : dflt Go.Proofs.Try.prog 59 = .nilf := by kernel_rfl
theorem t59_zv : zval Go.Proofs.Try.prog 59 = some (.nilf) := by kernel_rfl
theorem t61_sz : sizeT Go.Proofs.Try.prog 61 = some 1 := by kernel_rfl
theorem t61_by : bytesT Go.Proofs.Try.prog 61 = some 8 := by kernel_rfl
theorem t61_z : zav Go.Proofs.Try.prog 61 = some [.nilf] := by kernel_rfl
theorem t61_d : dflt Go.Proofs.Try.prog 61 = .nilf := by kernel_rfl
theorem t61_zv : zval Go.Proofs.Try.prog 61 = some (.nilf) := by kernel_rfl
theorem t63_sz : sizeT Go.Proofs.Try.prog 63 = some 1 := by kernel_rfl
theorem t63_by : bytesT Go.Proofs.Try.prog 63 = some 8 := by kernel_rfl
theorem t63_z : zav Go.Proofs.Try.prog 63 = some [.nilf] := by kernel_rfl
theorem t63_d : dflt Go.Proofs.Try.prog 63 = .nilf := by kernel_rfl
theorem t63_zv : zval Go.Proofs.Try.prog 63 = some (.nilf) := by kernel_rfl
theorem t64_sz : sizeT Go.Proofs.Try.prog 64 = some 1 := by kernel_rfl
theorem t64_by : bytesT Go.Proofs.Try.prog 64 = some 8 := by kernel_rfl
theorem t64_z : zav Go.Proofs.Try.prog 64 = some [.nilf] := by kernel_rfl
theorem t64_d : dflt Go.Proofs.Try.prog 64 = .nilf := by kernel_rfl
theorem t64_zv : zval Go.Proofs.Try.prog 64 = some (.nilf) := by kernel_rfl
theorem t65_sz : sizeT Go.Proofs.Try.prog 65 = some 1 := by kernel_rfl
theorem t65_by : bytesT Go.Proofs.Try.prog 65 = some 8 := by kernel_rfl
theorem t65_z : zav Go.Proofs.Try.prog 65 = some [.nilf] := by kernel_rfl
theorem t65_d : dflt Go.Proofs.Try.prog 65 = .nilf := by kernel_rfl
theorem t65_zv : zval Go.Proofs.Try.prog 65 = some (.nilf) := by kernel_rfl
theorem t66_sz : sizeT Go.Proofs.Try.prog 66 = some 1 := by kernel_rfl
theorem t66_by : bytesT Go.Proofs.Try.prog 66 = some 8 := by kernel_rfl
theorem t66_z : zav Go.Proofs.Try.prog 66 = some [.nilf] := by kernel_rfl
theorem t66_d : dflt Go.Proofs.Try.prog 66 = .nilf := by kernel_rfl
theorem t66_zv : zval Go.Proofs.Try.prog 66 = some (.nilf) := by kernel_rfl
theorem t67_sz : sizeT Go.Proofs.Try.prog 67 = some 1 := by kernel_rfl
theorem t67_by : bytesT Go.Proofs.Try.prog 67 = some 8 := by kernel_rfl
theorem t67_z : zav Go.Proofs.Try.prog 67 = some [.nilf] := by kernel_rfl
theorem t67_d : dflt Go.Proofs.Try.prog 67 = .nilf := by kernel_rfl
theorem t67_zv : zval Go.Proofs.Try.prog 67 = some (.nilf) := by kernel_rfl
theorem t68_sz : sizeT Go.Proofs.Try.prog 68 = some 1 := by kernel_rfl
theorem t68_by : bytesT Go.Proofs.Try.prog 68 = some 24 := by kernel_rfl
theorem t68_z : zav Go.Proofs.Try.prog 68 = some [.nils] := by kernel_rfl
theorem t68_d : dflt Go.Proofs.Try.prog 68 = .nils := by kernel_rfl
theorem t68_zv : zval Go.Proofs.Try.prog 68 = some (.nils) := by kernel_rfl
theorem t69_sz : sizeT Go.Proofs.Try.prog 69 = some 1 := by kernel_rfl
theorem t69_by : bytesT Go.Proofs.Try.prog 69 = some 8 := by kernel_rfl
theorem t69_z : zav Go.Proofs.Try.prog 69 = some [.nilf] := by kernel_rfl
theorem t69_d : dflt Go.Proofs.Try.prog 69 = .nilf := by kernel_rfl
theorem t69_zv : zval Go.Proofs.Try.prog 69 = some (.nilf) := by kernel_rfl
theorem t70_sz : sizeT Go.Proofs.Try.prog 70 = some 1 := by kernel_rfl
theorem t70_by : bytesT Go.Proofs.Try.prog 70 = some 8 := by kernel_rfl
theorem t70_z : zav Go.Proofs.Try.prog 70 = some [.nilf] := by kernel_rfl
theorem t70_d : dflt Go.Proofs.Try.prog 70 = .nilf := by kernel_rfl
theorem t70_zv : zval Go.Proofs.Try.prog 70 = some (.nilf) := by kernel_rfl
theorem t71_sz : sizeT Go.Proofs.Try.prog 71 = some 1 := by kernel_rfl
theorem t71_by : bytesT Go.Proofs.Try.prog 71 = some 8 := by kernel_rfl
theorem t71_z : zav Go.Proofs.Try.prog 71 = some [.nilf] := by kernel_rfl
theorem t71_d : dflt Go.Proofs.Try.prog 71 = .nilf := by kernel_rfl
theorem t71_zv : zval Go.Proofs.Try.prog 71 = some (.nilf) := by kernel_rfl
theorem t72_sz : sizeT Go.Proofs.Try.prog 72 = some 1 := by kernel_rfl
theorem t72_by : bytesT Go.Proofs.Try.prog 72 = some 8 := by kernel_rfl
theorem t72_z : zav Go.Proofs.Try.prog 72 = some [.nilf] := by kernel_rfl
theorem t72_d : dflt Go.Proofs.Try.prog 72 = .nilf := by kernel_rfl
theorem t72_zv : zval Go.Proofs.Try.prog 72 = some (.nilf) := by kernel_rfl
theorem t73_sz : sizeT Go.Proofs.Try.prog 73 = some 1 := by kernel_rfl
theorem t73_by : bytesT Go.Proofs.Try.prog 73 = some 8 := by kernel_rfl
theorem t73_z : zav Go.Proofs.Try.prog 73 = some [.nilf] := by kernel_rfl
theorem t73_d : dflt Go.Proofs.Try.prog 73 = .nilf := by kernel_rfl
theorem t73_zv : zval Go.Proofs.Try.prog 73 = some (.nilf) := by kernel_rfl
theorem t74_sz : sizeT Go.Proofs.Try.prog 74 = some 1 := by kernel_rfl
theorem t74_by : bytesT Go.Proofs.Try.prog 74 = some 8 := by kernel_rfl
theorem t74_z : zav Go.Proofs.Try.prog 74 = some [.nilf] := by kernel_rfl
theorem t74_d : dflt Go.Proofs.Try.prog 74 = .nilf := by kernel_rfl
theorem t74_zv : zval Go.Proofs.Try.prog 74 = some (.nilf) := by kernel_rfl
theorem t75_sz : sizeT Go.Proofs.Try.prog 75 = some 256 := by kernel_rfl
theorem t75_by : bytesT Go.Proofs.Try.prog 75 = some 2048 := by kernel_rfl
theorem t75_z : zav Go.Proofs.Try.prog 75 = some (List.replicate 256 (.int .u64 0)) := by kernel_rfl
theorem t75_zv : zval Go.Proofs.Try.prog 75 = some (.agg (List.replicate 256 (.int .u64 0))) := by kernel_rfl
theorem t76_sz : sizeT Go.Proofs.Try.prog 76 = some 1 := by kernel_rfl
theorem t76_by : bytesT Go.Proofs.Try.prog 76 = some 8 := by kernel_rfl
theorem t76_z : zav Go.Proofs.Try.prog 76 = some [.nilf] := by kernel_rfl
theorem t76_d : dflt Go.Proofs.Try.prog 76 = .nilf := by kernel_rfl
theorem t76_zv : zval Go.Proofs.Try.prog 76 = some (.nilf) := by kernel_rfl
theorem t77_sz : sizeT Go.Proofs.Try.prog 77 = some 1 := by kernel_rfl
theorem t77_by : bytesT Go.Proofs.Try.prog 77 = some 8 := by kernel_rfl
theorem t77_z : zav Go.Proofs.Try.prog 77 = some [.int .u64 0] := by kernel_rfl
theorem t77_d : dflt Go.Proofs.Try.prog 77 = .int .u64 0 := by kernel_rfl
theorem t77_zv : zval Go.Proofs.Try.prog 77 = some (.int .u64 0) := by kernel_rfl
theorem t78_sz : sizeT Go.Proofs.Try.prog 78 = some 256 := by kernel_rfl
theorem t78_by : bytesT Go.Proofs.Try.prog 78 = some 1024 := by kernel_rfl
theorem t78_z : zav Go.Proofs.Try.prog 78 = some (List.replicate 256 (.int .u32 0)) := by kernel_rfl
theorem t78_zv : zval Go.Proofs.Try.prog 78 = some (.agg (List.replicate 256 (.int .u32 0))) := by kernel_rfl
theorem t79_sz : sizeT Go.Proofs.Try.prog 79 = some 1024 := by kernel_rfl
theorem t79_by : bytesT Go.Proofs.Try.prog 79 = some 4096 := by kernel_rfl
theorem t79_z : zav Go.Proofs.Try.prog 79 = some ((List.replicate 4 (List.replicate 256 (.int .u32 0))).flatten) := by kernel_rfl
theorem t79_zv : zval Go.Proofs.Try.prog 79 = some (.agg ((List.replicate 4 (List.replicate 256 (.int .u32 0))).flatten)) := by kernel_rfl
theorem t80_sz : sizeT Go.Proofs.Try.prog 80 = some 1 := by kernel_rfl
theorem t80_by : bytesT Go.Proofs.Try.prog 80 = some 8 := by kernel_rfl
theorem t80_z : zav Go.Proofs.Try.prog 80 = some [.nilf] := by kernel_rfl
theorem t80_d : dflt Go.Proofs.Try.prog 80 = .nilf := by kernel_rfl
theorem t80_zv : zval Go.Proofs.Try.prog 80 = some (.nilf) := by kernel_rfl
theorem t81_sz : sizeT Go.Proofs.Try.prog 81 = some 1 := by kernel_rfl
theorem t81_by : bytesT Go.Proofs.Try.prog 81 = some 8 := by kernel_rfl
theorem t81_z : zav Go.Proofs.Try.prog 81 = some [.nilf] := by kernel_rfl
theorem t81_d : dflt Go.Proofs.Try.prog 81 = .nilf := by kernel_rfl
theorem t81_zv : zval Go.Proofs.Try.prog 81 = some (.nilf) := by kernel_rfl
theorem t82_sz : sizeT Go.Proofs.Try.prog 82 = some 1 := by kernel_rfl
theorem t82_by : bytesT Go.Proofs.Try.prog 82 = some 8 := by kernel_rfl
theorem t82_z : zav Go.Proofs.Try.prog 82 = some [.nilf] := by kernel_rfl
theorem t82_d : dflt Go.Proofs.Try.prog 82 = .nilf := by kernel_rfl
theorem t82_zv : zval Go.Proofs.Try.prog 82 = some (.nilf) := by kernel_rfl
theorem t83_sz : sizeT Go.Proofs.Try.prog 83 = some 1 := by kernel_rfl
theorem t83_by : bytesT Go.Proofs.Try.prog 83 = some 8 := by kernel_rfl
theorem t83_z : zav Go.Proofs.Try.prog 83 = some [.nilf] := by kernel_rfl
theorem t83_d : dflt Go.Proofs.Try.prog 83 = .nilf := by kernel_rfl
theorem t83_zv : zval Go.Proofs.Try.prog 83 = some (.nilf) := by kernel_rfl
theorem t84_sz : sizeT Go.Proofs.Try.prog 84 = some 1 := by kernel_rfl
theorem t84_by : bytesT Go.Proofs.Try.prog 84 = some 8 := by kernel_rfl
theorem t84_z : zav Go.Proofs.Try.prog 84 = some [.nilf] := by kernel_rfl
theorem t84_d : dflt Go.Proofs.Try.prog 84 = .nilf := by kernel_rfl
theorem t84_zv : zval Go.Proofs.Try.prog 84 = some (.nilf) := by kernel_rfl
theorem t85_sz : sizeT Go.Proofs.Try.prog 85 = some 1 := by kernel_rfl
theorem t85_by : bytesT Go.Proofs.Try.prog 85 = some 24 := by kernel_rfl
theorem t85_z : zav Go.Proofs.Try.prog 85 = some [.nils] := by kernel_rfl
theorem t85_d : dflt Go.Proofs.Try.prog 85 = .nils := by kernel_rfl
theorem t85_zv : zval Go.Proofs.Try.prog 85 = some (.nils) := by kernel_rfl
theorem t87_sz : sizeT Go.Proofs.Try.prog 87 = some 1 := by kernel_rfl
theorem t87_by : bytesT Go.Proofs.Try.prog 87 = some 8 := by kernel_rfl
theorem t87_z : zav Go.Proofs.Try.prog 87 = some [.nilf] := by kernel_rfl
theorem t87_d : dflt Go.Proofs.Try.prog 87 = .nilf := by kernel_rfl
theorem t87_zv : zval Go.Proofs.Try.prog 87 = some (.nilf) := by kernel_rfl
theorem t88_sz : sizeT Go.Proofs.Try.prog 88 = some 1 := by kernel_rfl
theorem t88_by : bytesT Go.Proofs.Try.prog 88 = some 8 := by kernel_rfl
theorem t88_z : zav Go.Proofs.Try.prog 88 = some [.nilf] := by kernel_rfl
theorem t88_d : dflt Go.Proofs.Try.prog 88 = .nilf := by kernel_rfl
theorem t88_zv : zval Go.Proofs.Try.prog 88 = some (.nilf) := by kernel_rfl
theorem t89_sz : sizeT Go.Proofs.Try.prog 89 = some 1 := by kernel_rfl
theorem t89_by : bytesT Go.Proofs.Try.prog 89 = some 8 := by kernel_rfl
theorem t89_z : zav Go.Proofs.Try.prog 89 = some [.nilf] := by kernel_rfl
theorem t89_d : dflt Go.Proofs.Try.prog 89 = .nilf := by kernel_rfl
theorem t89_zv : zval Go.Proofs.Try.prog 89 = some (.nilf) := by kernel_rfl
theorem t90_sz : sizeT Go.Proofs.Try.prog 90 = some 8 := by kernel_rfl
theorem t90_by : bytesT Go.Proofs.Try.prog 90 = some 32 := by kernel_rfl
theorem t90_z : zav Go.Proofs.Try.prog 90 = some (List.replicate 8 (.int .u32 0)) := by kernel_rfl
theorem t90_zv : zval Go.Proofs.Try.prog 90 = some (.agg (List.replicate 8 (.int .u32 0))) := by kernel_rfl
theorem t91_sz : sizeT Go.Proofs.Try.prog 91 = some 1 := by kernel_rfl
theorem t91_by : bytesT Go.Proofs.Try.prog 91 = some 8 := by kernel_rfl
theorem t91_z : zav Go.Proofs.Try.prog 91 = some [.nilf] := by kernel_rfl
theorem t91_d : dflt Go.Proofs.Try.prog 91 = .nilf := by kernel_rfl
theorem t91_zv : zval Go.Proofs.Try.prog 91 = some (.nilf) := by kernel_rfl
theorem t92_sz : sizeT Go.Proofs.Try.prog 92 = some 10 := by kernel_rfl
theorem t92_z : zav Go.Proofs.Try.prog 92 = some ((List.replicate 8 (.int .u32 0)) ++ [.nils] ++ [.int .u64 0]) := by kernel_rfl
theorem t92_zv : zval Go.Proofs.Try.prog 92 = some (.agg ((List.replicate 8 (.int .u32 0)) ++ [.nils] ++ [.int .u64 0])) := by kernel_rfl
theorem t92_f0 : fieldT Go.Proofs.Try.prog 92 0 = some (0, 90) := by kernel_rfl
theorem t92_f1 : fieldT Go.Proofs.Try.prog 92 1 = some (8, 22) := by kernel_rfl
theorem t92_f2 : fieldT Go.Proofs.Try.prog 92 2 = some (9, 30) := by kernel_rfl
theorem t92_pl : placesT Go.Proofs.Try.prog 92 = some [(0, 8), (8, 1), (9, 1)] := by kernel_rfl
theorem t93_sz : sizeT Go.Proofs.Try.prog 93 = some 10 := by kernel_rfl
theorem t93_z : zav Go.Proofs.Try.prog 93 = some ((List.replicate 8 (.int .u32 0)) ++ [.nils] ++ [.int .u64 0]) := by kernel_rfl
theorem t93_zv : zval Go.Proofs.Try.prog 93 = some (.agg ((List.replicate 8 (.int .u32 0)) ++ [.nils] ++ [.int .u64 0])) := by kernel_rfl
theorem t93_f0 : fieldT Go.Proofs.Try.prog 93 0 = some (0, 90) := by kernel_rfl
theorem t93_f1 : fieldT Go.Proofs.Try.prog 93 1 = some (8, 22) := by kernel_rfl
theorem t93_f2 : fieldT Go.Proofs.Try.prog 93 2 = some (9, 30) := by kernel_rfl
theorem t93_pl : placesT Go.Proofs.Try.prog 93 = some [(0, 8), (8, 1), (9, 1)] := by kernel_rfl
theorem t94_sz : sizeT Go.Proofs.Try.prog 94 = some 1 := by kernel_rfl
theorem t94_by : bytesT Go.Proofs.Try.prog 94 = some 8 := by kernel_rfl
theorem t94_z : zav Go.Proofs.Try.prog 94 = some [.nilf] := by kernel_rfl
theorem t94_d : dflt Go.Proofs.Try.prog 94 = .nilf := by kernel_rfl
theorem t94_zv : zval Go.Proofs.Try.prog 94 = some (.nilf) := by kernel_rfl
theorem t95_sz : sizeT Go.Proofs.Try.prog 95 = some 1 := by kernel_rfl
theorem t95_by : bytesT Go.Proofs.Try.prog 95 = some 8 := by kernel_rfl
theorem t95_z : zav Go.Proofs.Try.prog 95 = some [.nilf] := by kernel_rfl
theorem t95_d : dflt Go.Proofs.Try.prog 95 = .nilf := by kernel_rfl
theorem t95_zv : zval Go.Proofs.Try.prog 95 = some (.nilf) := by kernel_rfl
theorem t96_sz : sizeT Go.Proofs.Try.prog 96 = some 1 := by kernel_rfl
theorem t96_by : bytesT Go.Proofs.Try.prog 96 = some 8 := by kernel_rfl
theorem t96_z : zav Go.Proofs.Try.prog 96 = some [.nilf] := by kernel_rfl
theorem t96_d : dflt Go.Proofs.Try.prog 96 = .nilf := by kernel_rfl
theorem t96_zv : zval Go.Proofs.Try.prog 96 = some (.nilf) := by kernel_rfl
theorem t97_sz : sizeT Go.Proofs.Try.prog 97 = some 256 := by kernel_rfl
theorem t97_by : bytesT Go.Proofs.Try.prog 97 = some 256 := by kernel_rfl
theorem t97_z : zav Go.Proofs.Try.prog 97 = some (List.replicate 256 (.int .u8 0)) := by kernel_rfl
theorem t97_zv : zval Go.Proofs.Try.prog 97 = some (.agg (List.replicate 256 (.int .u8 0))) := by kernel_rfl
theorem t98_sz : sizeT Go.Proofs.Try.prog 98 = some 256 := by kernel_rfl
theorem t98_by : bytesT Go.Proofs.Try.prog 98 = some 256 := by kernel_rfl
theorem t98_z : zav Go.Proofs.Try.prog 98 = some (List.replicate 256 (.int .u8 0)) := by kernel_rfl
theorem t98_zv : zval Go.Proofs.Try.prog 98 = some (.agg (List.replicate 256 (.int .u8 0))) := by kernel_rfl
theorem t100_sz : sizeT Go.Proofs.Try.prog 100 = some 1 := by kernel_rfl
theorem t100_by : bytesT Go.Proofs.Try.prog 100 = some 8 := by kernel_rfl
theorem t100_z : zav Go.Proofs.Try.prog 100 = some [.nilf] := by kernel_rfl
theorem t100_d : dflt Go.Proofs.Try.prog 100 = .nilf := by kernel_rfl
theorem t100_zv : zval Go.Proofs.Try.prog 100 = some (.nilf) := by kernel_rfl
theorem t101_sz : sizeT Go.Proofs.Try.prog 101 = some 1 := by kernel_rfl
theorem t101_by : bytesT Go.Proofs.Try.prog 101 = some 8 := by kernel_rfl
theorem t101_z : zav Go.Proofs.Try.prog 101 = some [.nilf] := by kernel_rfl
theorem t101_d : dflt Go.Proofs.Try.prog 101 = .nilf := by kernel_rfl
theorem t101_zv : zval Go.Proofs.Try.prog 101 = some (.nilf) := by kernel_rfl
theorem t102_sz : sizeT Go.Proofs.Try.prog 102 = some 2 := by kernel_rfl
theorem t102_z : zav Go.Proofs.Try.prog 102 = some [.bool false, .nilf] := by kernel_rfl
theorem t102_zv : zval Go.Proofs.Try.prog 102 = some (.agg [.bool false, .nilf]) := by kernel_rfl
theorem t102_f0 : fieldT Go.Proofs.Try.prog 102 0 = some (0, 4) := by kernel_rfl
theorem t102_f1 : fieldT Go.Proofs.Try.prog 102 1 = some (1, 101) := by kernel_rfl
theorem t102_pl : placesT Go.Proofs.Try.prog 102 = some [(0, 1), (1, 1)] := by kernel_rfl
theorem t103_sz : sizeT Go.Proofs.Try.prog 103 = some 2 := by kernel_rfl
theorem t103_z : zav Go.Proofs.Try.prog 103 = some [.bool false, .nilf] := by kernel_rfl
theorem t103_zv : zval Go.Proofs.Try.prog 103 = some (.agg [.bool false, .nilf]) := by kernel_rfl
theorem t103_f0 : fieldT Go.Proofs.Try.prog 103 0 = some (0, 4) := by kernel_rfl
theorem t103_f1 : fieldT Go.Proofs.Try.prog 103 1 = some (1, 101) := by kernel_rfl
theorem t103_pl : placesT Go.Proofs.Try.prog 103 = some [(0, 1), (1, 1)] := by kernel_rfl
theorem t105_sz : sizeT Go.Proofs.Try.prog 105 = some 1 := by kernel_rfl
theorem t105_by : bytesT Go.Proofs.Try.prog 105 = some 8 := by kernel_rfl
theorem t105_z : zav Go.Proofs.Try.prog 105 = some [.nilm] := by kernel_rfl
theorem t105_d : dflt Go.Proofs.Try.prog 105 = .nilm := by kernel_rfl
theorem t105_zv : zval Go.Proofs.Try.prog 105 = some (.nilm) := by kernel_rfl
theorem t106_sz : sizeT Go.Proofs.Try.prog 106 = some 1 := by kernel_rfl
theorem t106_by : bytesT Go.Proofs.Try.prog 106 = some 8 := by kernel_rfl
theorem t106_z : zav Go.Proofs.Try.prog 106 = some [.nilf] := by kernel_rfl
theorem t106_d : dflt Go.Proofs.Try.prog 106 = .nilf := by kernel_rfl
theorem t106_zv : zval Go.Proofs.Try.prog 106 = some (.nilf) := by kernel_rfl
theorem t107_sz : sizeT Go.Proofs.Try.prog 107 = some 1 := by kernel_rfl
theorem t107_by : bytesT Go.Proofs.Try.prog 107 = some 8 := by kernel_rfl
theorem t107_z : zav Go.Proofs.Try.prog 107 = some [.nilf] := by kernel_rfl
theorem t107_d : dflt Go.Proofs.Try.prog 107 = .nilf := by kernel_rfl
theorem t107_zv : zval Go.Proofs.Try.prog 107 = some (.nilf) := by kernel_rfl
theorem t108_sz : sizeT Go.Proofs.Try.prog 108 = some 1 := by kernel_rfl
theorem t108_by : bytesT Go.Proofs.Try.prog 108 = some 8 := by kernel_rfl
theorem t108_z : zav Go.Proofs.Try.prog 108 = some [.nilf] := by kernel_rfl
theorem t108_d : dflt Go.Proofs.Try.prog 108 = .nilf := by kernel_rfl
theorem t108_zv : zval Go.Proofs.Try.prog 108 = some (.nilf) := by kernel_rfl
theorem t109_sz : sizeT Go.Proofs.Try.prog 109 = some 1 := by kernel_rfl
theorem t109_by : bytesT Go.Proofs.Try.prog 109 = some 8 := by kernel_rfl
theorem t109_z : zav Go.Proofs.Try.prog 109 = some [.nilf] := by kernel_rfl
theorem t109_d : dflt Go.Proofs.Try.prog 109 = .nilf := by kernel_rfl
theorem t109_zv : zval Go.Proofs.Try.prog 109 = some (.nilf) := by kernel_rfl
theorem t110_sz : sizeT Go.Proofs.Try.prog 110 = some 1 := by kernel_rfl
theorem t110_by : bytesT Go.Proofs.Try.prog 110 = some 8 := by kernel_rfl
theorem t110_z : zav Go.Proofs.Try.prog 110 = some [.nilf] := by kernel_rfl
theorem t110_d : dflt Go.Proofs.Try.prog 110 = .nilf := by kernel_rfl
theorem t110_zv : zval Go.Proofs.Try.prog 110 = some (.nilf) := by kernel_rfl
theorem t111_sz : sizeT Go.Proofs.Try.prog 111 = some 1 := by kernel_rfl
theorem t111_by : bytesT Go.Proofs.Try.prog 111 = some 24 := by kernel_rfl
theorem t111_z : zav Go.Proofs.Try.prog 111 = some [.nils] := by kernel_rfl
theorem t111_d : dflt Go.Proofs.Try.prog 111 = .nils := by kernel_rfl
theorem t111_zv : zval Go.Proofs.Try.prog 111 = some (.nils) := by kernel_rfl
theorem t112_sz : sizeT Go.Proofs.Try.prog 112 = some 1 := by kernel_rfl
theorem t112_by : bytesT Go.Proofs.Try.prog 112 = some 8 := by kernel_rfl
theorem t112_z : zav Go.Proofs.Try.prog 112 = some [.nilf] := by kernel_rfl
theorem t112_d : dflt Go.Proofs.Try.prog 112 = .nilf := by kernel_rfl
theorem t112_zv : zval Go.Proofs.Try.prog 112 = some (.nilf) := by kernel_rfl
theorem t113_sz : sizeT Go.Proofs.Try.prog 113 = some 1 := by kernel_rfl
theorem t113_by : bytesT Go.Proofs.Try.prog 113 = some 8 := by kernel_rfl
theorem t113_z : zav Go.Proofs.Try.prog 113 = some [.nilf] := by kernel_rfl
theorem t113_d : dflt Go.Proofs.Try.prog 113 = .nilf := by kernel_rfl
theorem t113_zv : zval Go.Proofs.Try.prog 113 = some (.nilf) := by kernel_rfl
theorem t114_sz : sizeT Go.Proofs.Try.prog 114 = some 64 := by kernel_rfl
theorem t114_by : bytesT Go.Proofs.Try.prog 114 = some 256 := by kernel_rfl
theorem t114_z : zav Go.Proofs.Try.prog 114 = some (List.replicate 64 (.int .u32 0)) := by kernel_rfl
theorem t114_zv : zval Go.Proofs.Try.prog 114 = some (.agg (List.replicate 64 (.int .u32 0))) := by kernel_rfl
theorem t115_sz : sizeT Go.Proofs.Try.prog 115 = some 1 := by kernel_rfl
theorem t115_by : bytesT Go.Proofs.Try.prog 115 = some 8 := by kernel_rfl
theorem t115_z : zav Go.Proofs.Try.prog 115 = some [.nilf] := by kernel_rfl
theorem t115_d : dflt Go.Proofs.Try.prog 115 = .nilf := by kernel_rfl
theorem t115_zv : zval Go.Proofs.Try.prog 115 = some (.nilf) := by kernel_rfl
theorem t116_sz : sizeT Go.Proofs.Try.prog 116 = some 1 := by kernel_rfl
theorem t116_by : bytesT Go.Proofs.Try.prog 116 = some 8 := by kernel_rfl
theorem t116_z : zav Go.Proofs.Try.prog 116 = some [.nilf] := by kernel_rfl
theorem t116_d : dflt Go.Proofs.Try.prog 116 = .nilf := by kernel_rfl
theorem t116_zv : zval Go.Proofs.Try.prog 116 = some (.nilf) := by kernel_rfl
theorem t117_sz : sizeT Go.Proofs.Try.prog 117 = some 1 := by kernel_rfl
theorem t117_by : bytesT Go.Proofs.Try.prog 117 = some 8 := by kernel_rfl
theorem t117_z : zav Go.Proofs.Try.prog 117 = some [.nilf] := by kernel_rfl
theorem t117_d : dflt Go.Proofs.Try.prog 117 = .nilf := by kernel_rfl
theorem t117_zv : zval Go.Proofs.Try.prog 117 = some (.nilf) := by kernel_rfl
theorem t118_sz : sizeT Go.Proofs.Try.prog 118 = some 1 := by kernel_rfl
theorem t118_by : bytesT Go.Proofs.Try.prog 118 = some 8 := by kernel_rfl
theorem t118_z : zav Go.Proofs.Try.prog 118 = some [.nilf] := by kernel_rfl
theorem t118_d : dflt Go.Proofs.Try.prog 118 = .nilf := by kernel_rfl
theorem t118_zv : zval Go.Proofs.Try.prog 118 = some (.nilf) := by kernel_rfl
theorem t119_sz : sizeT Go.Proofs.Try.prog 119 = some 1 := by kernel_rfl
theorem t119_by : bytesT Go.Proofs.Try.prog 119 = some 8 := by kernel_rfl
theorem t119_z : zav Go.Proofs.Try.prog 119 = some [.nilf] := by kernel_rfl
theorem t119_d : dflt Go.Proofs.Try.prog 119 = .nilf := by kernel_rfl
theorem t119_zv : zval Go.Proofs.Try.prog 119 = some (.nilf) := by kernel_rfl
theorem t121_sz : sizeT Go.Proofs.Try.prog 121 = some 1 := by kernel_rfl
theorem t121_by : bytesT Go.Proofs.Try.prog 121 = some 8 := by kernel_rfl
theorem t121_z : zav Go.Proofs.Try.prog 121 = some [.nilf] := by kernel_rfl
theorem t121_d : dflt Go.Proofs.Try.prog 121 = .nilf := by kernel_rfl
theorem t121_zv : zval Go.Proofs.Try.prog 121 = some (.nilf) := by kernel_rfl
theorem t122_sz : sizeT Go.Proofs.Try.prog 122 = some 1 := by kernel_rfl
theorem t122_by : bytesT Go.Proofs.Try.prog 122 = some 8 := by kernel_rfl
theorem t122_z : zav Go.Proofs.Try.prog 122 = some [.nilf] := by kernel_rfl
theorem t122_d : dflt Go.Proofs.Try.prog 122 = .nilf := by kernel_rfl
theorem t122_zv : zval Go.Proofs.Try.prog 122 = some (.nilf) := by kernel_rfl
theorem t123_sz : sizeT Go.Proofs.Try.prog 123 = some 4 := by kernel_rfl
theorem t123_z : zav Go.Proofs.Try.prog 123 = some [.nilp, .nilp, .nilp, .str ⟨#[]⟩] := by kernel_rfl
theorem t123_zv : zval Go.Proofs.Try.prog 123 = some (.agg [.nilp, .nilp, .nilp, .str ⟨#[]⟩]) := by kernel_rfl
theorem t123_f0 : fieldT Go.Proofs.Try.prog 123 0 = some (0, 17) := by kernel_rfl
theorem t123_f1 : fieldT Go.Proofs.Try.prog 123 1 = some (1, 17) := by kernel_rfl
theorem t123_f2 : fieldT Go.Proofs.Try.prog 123 2 = some (2, 17) := by kernel_rfl
theorem t123_f3 : fieldT Go.Proofs.Try.prog 123 3 = some (3, 9) := by kernel_rfl
theorem t123_pl : placesT Go.Proofs.Try.prog 123 = some [(0, 1), (1, 1), (2, 1), (3, 1)] := by kernel_rfl
theorem t124_sz : sizeT Go.Proofs.Try.prog 124 = some 4 := by kernel_rfl
theorem t124_z : zav Go.Proofs.Try.prog 124 = some [.nilp, .nilp, .nilp, .str ⟨#[]⟩] := by kernel_rfl
theorem t124_zv : zval Go.Proofs.Try.prog 124 = some (.agg [.nilp, .nilp, .nilp, .str ⟨#[]⟩]) := by kernel_rfl
theorem t124_f0 : fieldT Go.Proofs.Try.prog 124 0 = some (0, 17) := by kernel_rfl
theorem t124_f1 : fieldT Go.Proofs.Try.prog 124 1 = some (1, 17) := by kernel_rfl
theorem t124_f2 : fieldT Go.Proofs.Try.prog 124 2 = some (2, 17) := by kernel_rfl
theorem t124_f3 : fieldT Go.Proofs.Try.prog 124 3 = some (3, 9) := by kernel_rfl
theorem t124_pl : placesT Go.Proofs.Try.prog 124 = some [(0, 1), (1, 1), (2, 1), (3, 1)] := by kernel_rfl
theorem t125_sz : sizeT Go.Proofs.Try.prog 125 = some 0 := by kernel_rfl
theorem t125_by : bytesT Go.Proofs.Try.prog 125 = some 0 := by kernel_rfl
theorem t125_z : zav Go.Proofs.Try.prog 125 = some (List.replicate 0 (.nilp)) := by kernel_rfl
theorem t125_zv : zval Go.Proofs.Try.prog 125 = some (.agg (List.replicate 0 (.nilp))) := by kernel_rfl
theorem t126_sz : sizeT Go.Proofs.Try.prog 126 = some 0 := by kernel_rfl
theorem t126_z : zav Go.Proofs.Try.prog 126 = some ((List.replicate 0 (.nilp))) := by kernel_rfl
theorem t126_zv : zval Go.Proofs.Try.prog 126 = some (.agg ((List.replicate 0 (.nilp)))) := by kernel_rfl
theorem t126_f0 : fieldT Go.Proofs.Try.prog 126 0 = some (0, 125) := by kernel_rfl
theorem t126_pl : placesT Go.Proofs.Try.prog 126 = some [(0, 0)] := by kernel_rfl
theorem t127_sz : sizeT Go.Proofs.Try.prog 127 = some 0 := by kernel_rfl
theorem t127_z : zav Go.Proofs.Try.prog 127 = some ((List.replicate 0 (.nilp))) := by kernel_rfl
theorem t127_zv : zval Go.Proofs.Try.prog 127 = some (.agg ((List.replicate 0 (.nilp)))) := by kernel_rfl
theorem t127_f0 : fieldT Go.Proofs.Try.prog 127 0 = some (0, 125) := by kernel_rfl
theorem t127_pl : placesT Go.Proofs.Try.prog 127 = some [(0, 0)] := by kernel_rfl
theorem t128_sz : sizeT Go.Proofs.Try.prog 128 = some 1 := by kernel_rfl
theorem t128_by : bytesT Go.Proofs.Try.prog 128 = some 8 := by kernel_rfl
theorem t128_z : zav Go.Proofs.Try.prog 128 = some [.nilf] := by kernel_rfl
theorem t128_d : dflt Go.Proofs.Try.prog 128 = .nilf := by kernel_rfl
theorem t128_zv : zval Go.Proofs.Try.prog 128 = some (.nilf) := by kernel_rfl
theorem t129_sz : sizeT Go.Proofs.Try.prog 129 = some 1 := by kernel_rfl
theorem t129_by : bytesT Go.Proofs.Try.prog 129 = some 1 := by kernel_rfl
theorem t129_z : zav Go.Proofs.Try.prog 129 = some [.int .u8 0] := by kernel_rfl
theorem t129_d : dflt Go.Proofs.Try.prog 129 = .int .u8 0 := by kernel_rfl
theorem t129_zv : zval Go.Proofs.Try.prog 129 = some (.int .u8 0) := by kernel_rfl
theorem t130_sz : sizeT Go.Proofs.Try.prog 130 = some 1 := by kernel_rfl
theorem t130_by : bytesT Go.Proofs.Try.prog 130 = some 1 := by kernel_rfl
theorem t130_z : zav Go.Proofs.Try.prog 130 = some [.int .u8 0] := by kernel_rfl
theorem t130_d : dflt Go.Proofs.Try.prog 130 = .int .u8 0 := by kernel_rfl
theorem t130_zv : zval Go.Proofs.Try.prog 130 = some (.int .u8 0) := by kernel_rfl
theorem t131_sz : sizeT Go.Proofs.Try.prog 131 = some 1 := by kernel_rfl
theorem t131_by : bytesT Go.Proofs.Try.prog 131 = some 8 := by kernel_rfl
theorem t131_z : zav Go.Proofs.Try.prog 131 = some [.nilf] := by kernel_rfl
theorem t131_d : dflt Go.Proofs.Try.prog 131 = .nilf := by kernel_rfl
theorem t131_zv : zval Go.Proofs.Try.prog 131 = some (.nilf) := by kernel_rfl
theorem t132_sz : sizeT Go.Proofs.Try.prog 132 = some 1 := by kernel_rfl
theorem t132_by : bytesT Go.Proofs.Try.prog 132 = some 8 := by kernel_rfl
theorem t132_z : zav Go.Proofs.Try.prog 132 = some [.nilp] := by kernel_rfl
theorem t132_d : dflt Go.Proofs.Try.prog 132 = .nilp := by kernel_rfl
theorem t132_zv : zval Go.Proofs.Try.prog 132 = some (.nilp) := by kernel_rfl
theorem t133_sz : sizeT Go.Proofs.Try.prog 133 = some 1 := by kernel_rfl
theorem t133_by : bytesT Go.Proofs.Try.prog 133 = some 4 := by kernel_rfl
theorem t133_z : zav Go.Proofs.Try.prog 133 = some [.int .i32 0] := by kernel_rfl
theorem t133_d : dflt Go.Proofs.Try.prog 133 = .int .i32 0 := by kernel_rfl
theorem t133_zv : zval Go.Proofs.Try.prog 133 = some (.int .i32 0) := by kernel_rfl
theorem t134_sz : sizeT Go.Proofs.Try.prog 134 = some 1 := by kernel_rfl
theorem t134_by : bytesT Go.Proofs.Try.prog 134 = some 4 := by kernel_rfl
theorem t134_z : zav Go.Proofs.Try.prog 134 = some [.int .i32 0] := by kernel_rfl
theorem t134_d : dflt Go.Proofs.Try.prog 134 = .int .i32 0 := by kernel_rfl
theorem t134_zv : zval Go.Proofs.Try.prog 134 = some (.int .i32 0) := by kernel_rfl
theorem t135_sz : sizeT Go.Proofs.Try.prog 135 = some 11 := by kernel_rfl
theorem t135_z : zav Go.Proofs.Try.prog 135 = some [.int .u64 0, .int .u64 0, .int .u32 0, .int .u8 0, .int .u8 0, .int .u8 0, .int .u8 0, .nilf, .nilp, .int .i32 0, .int .i32 0] := by kernel_rfl
theorem t135_zv : zval Go.Proofs.Try.prog 135 = some (.agg [.int .u64 0, .int .u64 0, .int .u32 0, .int .u8 0, .int .u8 0, .int .u8 0, .int .u8 0, .nilf, .nilp, .int .i32 0, .int .i32 0]) := by kernel_rfl
theorem t135_f0 : fieldT Go.Proofs.Try.prog 135 0 = some (0, 12) := by kernel_rfl
theorem t135_f1 : fieldT Go.Proofs.Try.prog 135 1 = some (1, 12) := by kernel_rfl
theorem t135_f2 : fieldT Go.Proofs.Try.prog 135 2 = some (2, 34) := by kernel_rfl
theorem t135_f3 : fieldT Go.Proofs.Try.prog 135 3 = some (3, 129) := by kernel_rfl
theorem t135_f4 : fieldT Go.Proofs.Try.prog 135 4 = some (4, 5) := by kernel_rfl
theorem t135_f5 : fieldT Go.Proofs.Try.prog 135 5 = some (5, 5) := by kernel_rfl
theorem t135_f6 : fieldT Go.Proofs.Try.prog 135 6 = some (6, 130) := by kernel_rfl
theorem t135_f7 : fieldT Go.Proofs.Try.prog 135 7 = some (7, 131) := by kernel_rfl
theorem t135_f8 : fieldT Go.Proofs.Try.prog 135 8 = some (8, 132) := by kernel_rfl
theorem t135_f9 : fieldT Go.Proofs.Try.prog 135 9 = some (9, 133) := by kernel_rfl
theorem t135_f10 : fieldT Go.Proofs.Try.prog 135 10 = some (10, 134) := by kernel_rfl
theorem t135_pl : placesT Go.Proofs.Try.prog 135 = some [(0, 1), (1, 1), (2, 1), (3, 1), (4, 1), (5, 1), (6, 1), (7, 1), (8, 1), (9, 1), (10, 1)] := by kernel_rfl
theorem t136_sz : sizeT Go.Proofs.Try.prog 136 = some 11 := by kernel_rfl
theorem t136_z : zav Go.Proofs.Try.prog 136 = some [.int .u64 0, .int .u64 0, .int .u32 0, .int .u8 0, .int .u8 0, .int .u8 0, .int .u8 0, .nilf, .nilp, .int .i32 0, .int .i32 0] := by kernel_rfl
theorem t136_zv : zval Go.Proofs.Try.prog 136 = some (.agg [.int .u64 0, .int .u64 0, .int .u32 0, .int .u8 0, .int .u8 0, .int .u8 0, .int .u8 0, .nilf, .nilp, .int .i32 0, .int .i32 0]) := by kernel_rfl
theorem t136_f0 : fieldT Go.Proofs.Try.prog 136 0 = some (0, 12) := by kernel_rfl
theorem t136_f1 : fieldT Go.Proofs.Try.prog 136 1 = some (1, 12) := by kernel_rfl
theorem t136_f2 : fieldT Go.Proofs.Try.prog 136 2 = some (2, 34) := by kernel_rfl
theorem t136_f3 : fieldT Go.Proofs.Try.prog 136 3 = some (3, 129) := by kernel_rfl
theorem t136_f4 : fieldT Go.Proofs.Try.prog 136 4 = some (4, 5) := by kernel_rfl
theorem t136_f5 : fieldT Go.Proofs.Try.prog 136 5 = some (5, 5) := by kernel_rfl
theorem t136_f6 : fieldT Go.Proofs.Try.prog 136 6 = some (6, 130) := by kernel_rfl
theorem t136_f7 : fieldT Go.Proofs.Try.prog 136 7 = some (7, 131) := by kernel_rfl
theorem t136_f8 : fieldT Go.Proofs.Try.prog 136 8 = some (8, 132) := by kernel_rfl
theorem t136_f9 : fieldT Go.Proofs.Try.prog 136 9 = some (9, 133) := by kernel_rfl
theorem t136_f10 : fieldT Go.Proofs.Try.prog 136 10 = some (10, 134) := by kernel_rfl
theorem t136_pl : placesT Go.Proofs.Try.prog 136 = some [(0, 1), (1, 1), (2, 1), (3, 1), (4, 1), (5, 1), (6, 1), (7, 1), (8, 1), (9, 1), (10, 1)] := by kernel_rfl
theorem t137_sz : sizeT Go.Proofs.Try.prog 137 = some 1 := by kernel_rfl
theorem t137_by : bytesT Go.Proofs.Try.prog 137 = some 8 := by kernel_rfl
theorem en3 : enters Go.Proofs.Try.prog 3 = true := by kernel_rfl
theorem en4 : enters Go.Proofs.Try.prog 4 = true := by kernel_rfl
theorem en5 : enters Go.Proofs.Try.prog 5 = true := by kernel_rfl
theorem en6 : enters Go.Proofs.Try.prog 6 = true := by kernel_rfl
theorem en7 : enters Go.Proofs.Try.prog 7 = true := by kernel_rfl
theorem en8 : enters Go.Proofs.Try.prog 8 = true := by kernel_rfl
theorem en9 : enters Go.Proofs.Try.prog 9 = true := by kernel_rfl
theorem en10 : enters Go.Proofs.Try.prog 10 = true := by kernel_rfl
theorem en11 : enters Go.Proofs.Try.prog 11 = true := by kernel_rfl
theorem en12 : enters Go.Proofs.Try.prog 12 = true := by kernel_rfl
theorem en13 : enters Go.Proofs.Try.prog 13 = true := by kernel_rfl
theorem en14 : enters Go.Proofs.Try.prog 14 = true := by kernel_rfl
theorem en15 : enters Go.Proofs.Try.prog 15 = true := by kernel_rfl
theorem en16 : enters Go.Proofs.Try.prog 16 = true := by kernel_rfl
theorem en17 : enters Go.Proofs.Try.prog 17 = true := by kernel_rfl
theorem en18 : enters Go.Proofs.Try.prog 18 = true := by kernel_rfl
theorem en19 : enters Go.Proofs.Try.prog 19 = true := by kernel_rfl
theorem en20 : enters Go.Proofs.Try.prog 20 = true := by kernel_rfl
theorem en21 : enters Go.Proofs.Try.prog 21 = true := by kernel_rfl
theorem en22 : enters Go.Proofs.Try.prog 22 = true := by kernel_rfl
theorem en23 : enters Go.Proofs.Try.prog 23 = true := by kernel_rfl
theorem en24 : enters Go.Proofs.Try.prog 24 = true := by kernel_rfl
theorem en25 : enters Go.Proofs.Try.prog 25 = true := by kernel_rfl
theorem en26 : enters Go.Proofs.Try.prog 26 = true := by kernel_rfl
theorem en27 : enters Go.Proofs.Try.prog 27 = true := by kernel_rfl
theorem en28 : enters Go.Proofs.Try.prog 28 = true := by kernel_rfl
theorem en29 : enters Go.Proofs.Try.prog 29 = true := by kernel_rfl
theorem en30 : enters Go.Proofs.Try.prog 30 = true := by kernel_rfl
theorem en31 : enters Go.Proofs.Try.prog 31 = true := by kernel_rfl
theorem en32 : enters Go.Proofs.Try.prog 32 = true := by kernel_rfl
theorem en33 : enters Go.Proofs.Try.prog 33 = true := by kernel_rfl
theorem en34 : enters Go.Proofs.Try.prog 34 = true := by kernel_rfl
theorem en35 : enters Go.Proofs.Try.prog 35 = true := by kernel_rfl
theorem en36 : enters Go.Proofs.Try.prog 36 = true := by kernel_rfl
theorem en37 : enters Go.Proofs.Try.prog 37 = true := by kernel_rfl
theorem en38 : enters Go.Proofs.Try.prog 38 = true := by kernel_rfl
theorem en39 : enters Go.Proofs.Try.prog 39 = true := by kernel_rfl
theorem en40 : enters Go.Proofs.Try.prog 40 = true := by kernel_rfl
theorem en41 : enters Go.Proofs.Try.prog 41 = true := by kernel_rfl
theorem en42 : enters Go.Proofs.Try.prog 42 = true := by kernel_rfl
theorem en43 : enters Go.Proofs.Try.prog 43 = true := by kernel_rfl
theorem en44 : enters Go.Proofs.Try.prog 44 = true := by kernel_rfl
theorem en45 : enters Go.Proofs.Try.prog 45 = true := by kernel_rfl
theorem en46 : enters Go.Proofs.Try.prog 46 = true := by kernel_rfl
theorem en47 : enters Go.Proofs.Try.prog 47 = true := by kernel_rfl
theorem en48 : enters Go.Proofs.Try.prog 48 = true := by kernel_rfl
theorem en49 : enters Go.Proofs.Try.prog 49 = true := by kernel_rfl
theorem en50 : enters Go.Proofs.Try.prog 50 = true := by kernel_rfl
theorem en51 : enters Go.Proofs.Try.prog 51 = true := by kernel_rfl
theorem en52 : enters Go.Proofs.Try.prog 52 = true := by kernel_rfl
theorem en53 : enters Go.Proofs.Try.prog 53 = true := by kernel_rfl
theorem en54 : enters Go.Proofs.Try.prog 54 = true := by kernel_rfl
theorem en55 : enters Go.Proofs.Try.prog 55 = true := by kernel_rfl
theorem en56 : enters Go.Proofs.Try.prog 56 = true := by kernel_rfl
theorem en57 : enters Go.Proofs.Try.prog 57 = true := by kernel_rfl
theorem en58 : enters Go.Proofs.Try.prog 58 = true := by kernel_rfl
theorem en59 : enters Go.Proofs.Try.prog 59 = true := by kernel_rfl
theorem en60 : enters Go.Proofs.Try.prog 60 = true := by kernel_rfl
theorem en61 : enters Go.Proofs.Try.prog 61 = true := by kernel_rfl
theorem en62 : enters Go.Proofs.Try.prog 62 = true := by kernel_rfl
theorem en63 : enters Go.Proofs.Try.prog 63 = true := by kernel_rfl
theorem en64 : enters Go.Proofs.Try.prog 64 = true := by kernel_rfl
theorem en65 : enters Go.Proofs.Try.prog 65 = true := by kernel_rfl
theorem en66 : enters Go.Proofs.Try.prog 66 = true := by kernel_rfl
theorem en67 : enters Go.Proofs.Try.prog 67 = true := by kernel_rfl
theorem en68 : enters Go.Proofs.Try.prog 68 = true := by kernel_rfl
theorem en69 : enters Go.Proofs.Try.prog 69 = true := by kernel_rfl
theorem en70 : enters Go.Proofs.Try.prog 70 = true := by kernel_rfl
theorem en71 : enters Go.Proofs.Try.prog 71 = true := by kernel_rfl
theorem en72 : enters Go.Proofs.Try.prog 72 = true := by kernel_rfl
theorem en73 : enters Go.Proofs.Try.prog 73 = true := by kernel_rfl
theorem en74 : enters Go.Proofs.Try.prog 74 = true := by kernel_rfl
theorem en75 : enters Go.Proofs.Try.prog 75 = true := by kernel_rfl
theorem en76 : enters Go.Proofs.Try.prog 76 = true := by kernel_rfl
theorem en77 : enters Go.Proofs.Try.prog 77 = true := by kernel_rfl
theorem en78 : enters Go.Proofs.Try.prog 78 = true := by kernel_rfl
theorem en79 : enters Go.Proofs.Try.prog 79 = true := by kernel_rfl
theorem en80 : enters Go.Proofs.Try.prog 80 = true := by kernel_rfl
theorem en81 : enters Go.Proofs.Try.prog 81 = true := by kernel_rfl
theorem en82 : enters Go.Proofs.Try.prog 82 = true := by kernel_rfl
theorem en83 : enters Go.Proofs.Try.prog 83 = true := by kernel_rfl
theorem en84 : enters Go.Proofs.Try.prog 84 = true := by kernel_rfl
theorem en85 : enters Go.Proofs.Try.prog 85 = true := by kernel_rfl
theorem en86 : enters Go.Proofs.Try.prog 86 = true := by kernel_rfl
theorem en87 : enters Go.Proofs.Try.prog 87 = true := by kernel_rfl
theorem en88 : enters Go.Proofs.Try.prog 88 = true := by kernel_rfl
theorem en89 : enters Go.Proofs.Try.prog 89 = true := by kernel_rfl
theorem en90 : enters Go.Proofs.Try.prog 90 = true := by kernel_rfl
theorem en91 : enters Go.Proofs.Try.prog 91 = true := by kernel_rfl
theorem en92 : enters Go.Proofs.Try.prog 92 = true := by kernel_rfl
theorem en93 : enters Go.Proofs.Try.prog 93 = true := by kernel_rfl
theorem en94 : enters Go.Proofs.Try.prog 94 = true := by kernel_rfl
theorem en95 : enters Go.Proofs.Try.prog 95 = true := by kernel_rfl
theorem en96 : enters Go.Proofs.Try.prog 96 = true := by kernel_rfl
theorem en97 : enters Go.Proofs.Try.prog 97 = true := by kernel_rfl
theorem en98 : enters Go.Proofs.Try.prog 98 = true := by kernel_rfl
theorem en99 : enters Go.Proofs.Try.prog 99 = true := by kernel_rfl
theorem mixed : Go.Proofs.Try.prog.follows .mixedOrders = true := by kernel_rfl
end Go.Proofs.Ytiibjaommelkkaa.Fx
