/- The branch filters as a map; where a word's bytes stand; a four of bytes, turned in place. -/
import Derived.Test.YtiibjaommelkkaaEng19
import Derived.Test.YtiibjaommelkkaaEng26
import Derived.Test.YtiibjaommelkkaaBrancc
import Derived.Test.YtiibjaommelkkaaEng17
set_option linter.unusedVariables false
set_option linter.unusedSimpArgs false
set_option maxRecDepth 100000
namespace Go.Proofs.Ytiibjaommelkkaa
open Go Go.Eng

def fnA (g : FuncId) : AV := .fn (.func g) [] []
def filtL : List AV := [.agg [.bool true, fnA 92], .agg [.bool false, fnA 93], .agg [.bool true, fnA 94], .agg [.bool false, fnA 95]]
theorem filtersOk : CallOk Try.prog 78 [] (fun _ => true) [] 0 fun v m nx => v = .map 0 ∧ m = [(0, .mp .i64 [5, 7, 9, 10] filtL)] ∧ nx = 1 := by
  refine fn_ok Try.func78 rfl (Nat.zero_le _) ?_
  simp (config := { maxSteps := 1000000, implicitDefEqProofs := false }) only [-List.reduceReplicate, Nat.reduceBEq, renA, renL, renM, renO, evx, evs, evp, Eng.look, cst, cst1, putd, dstOk, params, loadx, partx, loI, hiI, bltx, mmI, boxx, srcx, calx, nilx, upd, del, resv, fillA, setMany, Nat.reduceLT, Nat.reduceLeDiff, Nat.reduceEqDiff, Nat.reduceAdd, Nat.reduceMul, Nat.reduceSub, reduceIte, reduceCtorEq, if_true, if_false, ite_true, ite_false, eq_self, forall_const, implies_true, Int.reduceLT, Int.reduceLE, Int.reduceToNat, Int.reduceAdd, Int.reduceSub, Int.reduceNeg, ne_eq, Int.reduceEq, Int.reduceNe, Int.reduceBEq, Int.reduceBNe, beq_self_eq_true, bne_self_eq_false, BitVec.reduceBEq, BitVec.reduceBNe, BitVec.reduceOfInt, BitVec.reduceSetWidth, wrD, engS0, engS1, engS2, engS3, engS4, engS5, engS6, engS7, engS8, engS9, engT0, engT1, engT2, Fx.t3, Fx.t4, Fx.t100, Fx.t101, Fx.t102, Fx.t103, Fx.t105, Fx.en92, Fx.en93, Fx.en94, Fx.en95, Try.results78, Try.ntmps78]
  exact ⟨[(0, 0)], .map 0, [(0, .mp .i64 [5, 7, 9, 10] filtL)], 1, ⟨rfl, by decide⟩, rfl, ⟨rfl, rfl, trivial⟩, by simp [injOn], (fun n e => by cases e), rfl, rfl, rfl⟩
/-- where a byte stands -/
def shiftN (high : Bool) (i : Nat) : Nat := if high then 8 * (3 - i) else 8 * i
theorem shiftOk (high : Bool) (g : FuncId) (i : Nat) (hi : i < 4) : CallOk Try.prog 80 [.agg [.bool high, fnA g], .int .i64 i] (fun _ => true) [] 0 fun v m nx => v = .int .i64 (shiftN high i : Nat) ∧ m = [] ∧ nx = 0 := by
  refine fn_ok Try.func80 rfl (by show 2 ≤ _; decide) ?_
  cases high with
  | true =>
    have w1 : IntKind.i64.wrap (3 - (i : Int)) = 3 - (i : Int) := by rw [wrap_i64] <;> omega
    have w2 : IntKind.i64.wrap (8 * (3 - (i : Int))) = ((8 * (3 - i) : Nat) : Int) := by rw [wrap_i64] <;> omega
    simp (config := { maxSteps := 1000000, implicitDefEqProofs := false }) only [-List.reduceReplicate, Nat.reduceBEq, renA, renL, renM, renO, evx, evs, evp, Eng.look, cst, cst1, putd, dstOk, params, loadx, partx, loI, hiI, bltx, mmI, boxx, srcx, calx, nilx, upd, del, resv, fillA, setMany, Nat.reduceLT, Nat.reduceLeDiff, Nat.reduceEqDiff, Nat.reduceAdd, Nat.reduceMul, Nat.reduceSub, reduceIte, reduceCtorEq, if_true, if_false, ite_true, ite_false, eq_self, forall_const, implies_true, Int.reduceLT, Int.reduceLE, Int.reduceToNat, Int.reduceAdd, Int.reduceSub, Int.reduceNeg, ne_eq, Int.reduceEq, Int.reduceNe, Int.reduceBEq, Int.reduceBNe, beq_self_eq_true, bne_self_eq_false, BitVec.reduceBEq, BitVec.reduceBNe, BitVec.reduceOfInt, BitVec.reduceSetWidth, wrD, engS0, engS1, engS2, engS3, engS4, engS5, engS6, engS7, engS8, engS9, engT0, engT1, engT2, Fx.t3, Fx.t4, Fx.t100, Fx.t101, Fx.t102, Fx.t103, Try.results80, Try.ntmps80, w1, w2, fnA]
    exact Fin.flatv (fun _ => rfl) (fun f => rfl) ⟨rfl, rfl, rfl⟩
  | false =>
    have w2 : IntKind.i64.wrap (8 * (i : Int)) = ((8 * i : Nat) : Int) := by rw [wrap_i64] <;> omega
    simp (config := { maxSteps := 1000000, implicitDefEqProofs := false }) only [-List.reduceReplicate, Nat.reduceBEq, renA, renL, renM, renO, evx, evs, evp, Eng.look, cst, cst1, putd, dstOk, params, loadx, partx, loI, hiI, bltx, mmI, boxx, srcx, calx, nilx, upd, del, resv, fillA, setMany, Nat.reduceLT, Nat.reduceLeDiff, Nat.reduceEqDiff, Nat.reduceAdd, Nat.reduceMul, Nat.reduceSub, reduceIte, reduceCtorEq, if_true, if_false, ite_true, ite_false, eq_self, forall_const, implies_true, Int.reduceLT, Int.reduceLE, Int.reduceToNat, Int.reduceAdd, Int.reduceSub, Int.reduceNeg, ne_eq, Int.reduceEq, Int.reduceNe, Int.reduceBEq, Int.reduceBNe, beq_self_eq_true, bne_self_eq_false, BitVec.reduceBEq, BitVec.reduceBNe, BitVec.reduceOfInt, BitVec.reduceSetWidth, wrD, engS0, engS1, engS2, engS3, engS4, engS5, engS6, engS7, engS8, engS9, engT0, engT1, engT2, Fx.t3, Fx.t4, Fx.t100, Fx.t101, Fx.t102, Fx.t103, Try.results80, Try.ntmps80, w2, fnA]
    exact Fin.flatv (fun _ => rfl) (fun f => rfl) ⟨rfl, rfl, rfl⟩
end Go.Proofs.Ytiibjaommelkkaa
