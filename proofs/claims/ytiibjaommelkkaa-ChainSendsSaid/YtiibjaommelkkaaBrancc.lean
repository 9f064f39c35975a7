/- The document's numbers of branches: taken modulo, and with a sign. -/
import Derived.Test.YtiibjaommelkkaaEng19
import Derived.Test.YtiibjaommelkkaaEng26
import Derived.Test.YtiibjaommelkkaaBrancb
set_option linter.unusedVariables false
set_option linter.unusedSimpArgs false
set_option maxRecDepth 100000
namespace Go.Proofs.Ytiibjaommelkkaa
open Go Go.Eng

theorem tmod_low (a m : Int) (hm : 0 < m) : -m < a.tmod m := by
  have h := Int.tmod_lt_of_pos (-a) hm
  rw [Int.neg_tmod] at h
  omega
theorem tmod_up (a m : Int) (hm : 0 < m) : (a.tmod m + m).tmod m = a % m := by
  have h1 : -m < a.tmod m := by
    exact tmod_low a m hm
  rw [Int.tmod_eq_emod_of_nonneg (by omega), Int.add_emod_right, Int.tmod_def, Int.sub_mul_emod_self_left]
def toldI (n place : Int) (back : Bool) (m : Int) : Int := (if back then n - place else n + place) % m
theorem toldOk (n place m : Int) (back : Bool) (h1 : 0 ≤ n) (h2 : n ≤ 1099511627776) (h3 : 0 ≤ place) (h4 : place ≤ 1099511627776) (h5 : 0 < m) (h6 : m ≤ 1099511627776) :
    CallOk Try.prog 81 [.int .i64 n, .int .i64 place, .bool back, .int .i64 m] (fun _ => true) [] 0 fun v mm nx => v = .int .i64 (toldI n place back m) ∧ mm = [] ∧ nx = 0 := by
  refine fn_ok Try.func81 rfl (by show 4 ≤ _; decide) ?_
  have b1 : ∀ a : Int, -m < a.tmod m ∧ a.tmod m < m := fun a => ⟨tmod_low a m h5, Int.tmod_lt_of_pos a h5⟩
  cases back with
  | true =>
    have w1 : IntKind.i64.wrap (0 - place) = - place := by rw [wrap_i64] <;> omega
    have w2 : IntKind.i64.wrap (n + - place) = n - place := by rw [wrap_i64] <;> omega
    have w3 : IntKind.i64.wrap ((n - place).tmod m + m) = (n - place).tmod m + m := by
      have := b1 (n - place)
      rw [wrap_i64] <;> omega
    simp (config := { maxSteps := 1000000, implicitDefEqProofs := false }) only [-List.reduceReplicate, Nat.reduceBEq, renA, renL, renM, renO, evx, evs, evp, Eng.look, cst, cst1, putd, dstOk, params, loadx, partx, loI, hiI, bltx, mmI, boxx, srcx, calx, nilx, upd, del, resv, fillA, setMany, Nat.reduceLT, Nat.reduceLeDiff, Nat.reduceEqDiff, Nat.reduceAdd, Nat.reduceMul, Nat.reduceSub, reduceIte, reduceCtorEq, if_true, if_false, ite_true, ite_false, eq_self, forall_const, implies_true, Int.reduceLT, Int.reduceLE, Int.reduceToNat, Int.reduceAdd, Int.reduceSub, Int.reduceNeg, ne_eq, Int.reduceEq, Int.reduceNe, Int.reduceBEq, Int.reduceBNe, beq_self_eq_true, bne_self_eq_false, BitVec.reduceBEq, BitVec.reduceBNe, BitVec.reduceOfInt, BitVec.reduceSetWidth, wrD, engS0, engS1, engS2, engS3, engS4, engS5, engS6, engS7, engS8, engS9, engT0, engT1, engT2, Fx.t3, Fx.t4, Try.results81, Try.ntmps81, w1, w2, w3, tmod_up _ m h5]
    exact ⟨by omega, by omega, Fin.flatv (fun _ => rfl) (fun f => rfl) ⟨rfl, rfl, rfl⟩⟩
  | false =>
    have w2 : IntKind.i64.wrap (n + place) = n + place := by rw [wrap_i64] <;> omega
    have w3 : IntKind.i64.wrap ((n + place).tmod m + m) = (n + place).tmod m + m := by
      have := b1 (n + place)
      rw [wrap_i64] <;> omega
    simp (config := { maxSteps := 1000000, implicitDefEqProofs := false }) only [-List.reduceReplicate, Nat.reduceBEq, renA, renL, renM, renO, evx, evs, evp, Eng.look, cst, cst1, putd, dstOk, params, loadx, partx, loI, hiI, bltx, mmI, boxx, srcx, calx, nilx, upd, del, resv, fillA, setMany, Nat.reduceLT, Nat.reduceLeDiff, Nat.reduceEqDiff, Nat.reduceAdd, Nat.reduceMul, Nat.reduceSub, reduceIte, reduceCtorEq, if_true, if_false, ite_true, ite_false, eq_self, forall_const, implies_true, Int.reduceLT, Int.reduceLE, Int.reduceToNat, Int.reduceAdd, Int.reduceSub, Int.reduceNeg, ne_eq, Int.reduceEq, Int.reduceNe, Int.reduceBEq, Int.reduceBNe, beq_self_eq_true, bne_self_eq_false, BitVec.reduceBEq, BitVec.reduceBNe, BitVec.reduceOfInt, BitVec.reduceSetWidth, wrD, engS0, engS1, engS2, engS3, engS4, engS5, engS6, engS7, engS8, engS9, engT0, engT1, engT2, Fx.t3, Fx.t4, Try.results81, Try.ntmps81, w2, w3, tmod_up _ m h5]
    exact ⟨by omega, by omega, Fin.flatv (fun _ => rfl) (fun f => rfl) ⟨rfl, rfl, rfl⟩⟩
end Go.Proofs.Ytiibjaommelkkaa
