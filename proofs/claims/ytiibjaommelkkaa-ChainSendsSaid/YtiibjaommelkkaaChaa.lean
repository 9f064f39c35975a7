/- Codes of sizes: what each stands for, and the least that stands for so much. -/
import Derived.Test.YtiibjaommelkkaaEng19
import Derived.Test.YtiibjaommelkkaaEng26
import Derived.Test.YtiibjaommelkkaaEng18
import Derived.Test.YtiibjaommelkkaaEng25
import Derived.Test.YtiibjaommelkkaaFx
set_option linter.unusedVariables false
set_option linter.unusedSimpArgs false
set_option maxRecDepth 100000
namespace Go.Proofs.Ytiibjaommelkkaa
open Go Go.Eng

def dicT (n : Nat) : Nat := if n = 40 then 4294967295 else (2 + n % 2) * 2 ^ (n / 2 + 11)
def dictN (c : Int) : Nat := if c < 0 ∨ 40 < c then 0 else dicT c.toNat
theorem dicT_lt : ∀ n : Fin 41, dicT n.val < 4294967296 := by decide
theorem dictN_lt (c : Int) : dictN c < 4294967296 := by
  rw [dictN]
  split
  · decide
  · exact dicT_lt ⟨c.toNat, by omega⟩
theorem dictN_nat (n : Nat) (h : n ≤ 40) : dictN n = dicT n := by rw [dictN, if_neg (by omega), Int.toNat_natCast]
theorem dictT_eq : ∀ n : Fin 40, 0 ≤ IntKind.i64.wrap (IntKind.i64.wrap (((n.val : Nat) : Int).tdiv 2) + 11) ∧
    (BitVec.ofInt 32 (bitsI BinOp.or IntKind.i64 2 (bitsI BinOp.and IntKind.i64 ((n.val : Nat) : Int) 1)) <<< (IntKind.i64.wrap (IntKind.i64.wrap (((n.val : Nat) : Int).tdiv 2) + 11)).toNat).toNat = dicT n.val := by decide +kernel
theorem dictOk (c : Int) (h1 : -9223372036854775808 ≤ c) (h2 : c < 9223372036854775808) : CallOk Try.prog 48 [.int .i64 c] (fun _ => true) [] 0 fun v m nx => v = .int .u32 (dictN c : Int) ∧ m = [] ∧ nx = 0 := by
  refine fn_ok Try.func48 rfl (by show 1 ≤ _; decide) ?_
  rcases Decidable.em (c < 0) with g1 | g1
  · have e : dictN c = 0 := if_pos (.inl g1)
    simp (config := { maxSteps := 1000000, implicitDefEqProofs := false }) only [-List.reduceReplicate, Nat.reduceBEq, renA, renL, renM, renO, evx, evs, evp, Eng.look, cst, cst1, putd, dstOk, params, loadx, partx, loI, hiI, bltx, mmI, boxx, srcx, calx, nilx, upd, del, resv, fillA, setMany, Nat.reduceLT, Nat.reduceLeDiff, Nat.reduceEqDiff, Nat.reduceAdd, Nat.reduceMul, Nat.reduceSub, reduceIte, reduceCtorEq, if_true, if_false, ite_true, ite_false, eq_self, forall_const, implies_true, Int.reduceLT, Int.reduceLE, Int.reduceToNat, Int.reduceAdd, Int.reduceSub, Int.reduceNeg, ne_eq, Int.reduceEq, Int.reduceNe, Int.reduceBEq, Int.reduceBNe, beq_self_eq_true, bne_self_eq_false, BitVec.reduceBEq, BitVec.reduceBNe, BitVec.reduceOfInt, BitVec.reduceSetWidth, wrD, engS0, engS1, engS2, engS3, engS4, engS5, engS6, engS7, engS8, engS9, engT0, engT1, engT2, Fx.t3, Fx.t4, Fx.t34, Try.results48, Try.ntmps48, decide_eq_true g1, e]
    exact Fin.flatv (fun _ => rfl) (fun f => rfl) ⟨rfl, rfl, rfl⟩
  rcases Decidable.em (c > 40) with g2 | g2
  · have e : dictN c = 0 := if_pos (.inr g2)
    simp (config := { maxSteps := 1000000, implicitDefEqProofs := false }) only [-List.reduceReplicate, Nat.reduceBEq, renA, renL, renM, renO, evx, evs, evp, Eng.look, cst, cst1, putd, dstOk, params, loadx, partx, loI, hiI, bltx, mmI, boxx, srcx, calx, nilx, upd, del, resv, fillA, setMany, Nat.reduceLT, Nat.reduceLeDiff, Nat.reduceEqDiff, Nat.reduceAdd, Nat.reduceMul, Nat.reduceSub, reduceIte, reduceCtorEq, if_true, if_false, ite_true, ite_false, eq_self, forall_const, implies_true, Int.reduceLT, Int.reduceLE, Int.reduceToNat, Int.reduceAdd, Int.reduceSub, Int.reduceNeg, ne_eq, Int.reduceEq, Int.reduceNe, Int.reduceBEq, Int.reduceBNe, beq_self_eq_true, bne_self_eq_false, BitVec.reduceBEq, BitVec.reduceBNe, BitVec.reduceOfInt, BitVec.reduceSetWidth, wrD, engS0, engS1, engS2, engS3, engS4, engS5, engS6, engS7, engS8, engS9, engT0, engT1, engT2, Fx.t3, Fx.t4, Fx.t34, Try.results48, Try.ntmps48, decide_eq_false g1, decide_eq_true g2, e]
    exact Fin.flatv (fun _ => rfl) (fun f => rfl) ⟨rfl, rfl, rfl⟩
  obtain ⟨n, rfl⟩ : ∃ n : Nat, c = n := ⟨c.toNat, by omega⟩
  rw [dictN_nat n (by omega)]
  rcases Decidable.em (n = 40) with rfl | g3
  · rw [show ((40 : Nat) : Int) = 40 from rfl]
    have q1 : decide ((40 : Int) < 0) = false := rfl
    have q2 : decide ((40 : Int) > 40) = false := rfl
    have q3 : ((40 : Int) == 40) = true := rfl
    simp (config := { maxSteps := 1000000, implicitDefEqProofs := false }) only [-List.reduceReplicate, Nat.reduceBEq, renA, renL, renM, renO, evx, evs, evp, Eng.look, cst, cst1, putd, dstOk, params, loadx, partx, loI, hiI, bltx, mmI, boxx, srcx, calx, nilx, upd, del, resv, fillA, setMany, Nat.reduceLT, Nat.reduceLeDiff, Nat.reduceEqDiff, Nat.reduceAdd, Nat.reduceMul, Nat.reduceSub, reduceIte, reduceCtorEq, if_true, if_false, ite_true, ite_false, eq_self, forall_const, implies_true, Int.reduceLT, Int.reduceLE, Int.reduceToNat, Int.reduceAdd, Int.reduceSub, Int.reduceNeg, ne_eq, Int.reduceEq, Int.reduceNe, Int.reduceBEq, Int.reduceBNe, beq_self_eq_true, bne_self_eq_false, BitVec.reduceBEq, BitVec.reduceBNe, BitVec.reduceOfInt, BitVec.reduceSetWidth, wrD, engS0, engS1, engS2, engS3, engS4, engS5, engS6, engS7, engS8, engS9, engT0, engT1, engT2, Fx.t3, Fx.t4, Fx.t34, Try.results48, Try.ntmps48, q1, q2, q3]
    exact Fin.flatv (fun _ => rfl) (fun f => rfl) ⟨rfl, rfl, rfl⟩
  have f3 : (((n : Nat) : Int) == 40) = false := by simp; omega
  simp (config := { maxSteps := 1000000, implicitDefEqProofs := false }) only [-List.reduceReplicate, Nat.reduceBEq, renA, renL, renM, renO, evx, evs, evp, Eng.look, cst, cst1, putd, dstOk, params, loadx, partx, loI, hiI, bltx, mmI, boxx, srcx, calx, nilx, upd, del, resv, fillA, setMany, Nat.reduceLT, Nat.reduceLeDiff, Nat.reduceEqDiff, Nat.reduceAdd, Nat.reduceMul, Nat.reduceSub, reduceIte, reduceCtorEq, if_true, if_false, ite_true, ite_false, eq_self, forall_const, implies_true, Int.reduceLT, Int.reduceLE, Int.reduceToNat, Int.reduceAdd, Int.reduceSub, Int.reduceNeg, ne_eq, Int.reduceEq, Int.reduceNe, Int.reduceBEq, Int.reduceBNe, beq_self_eq_true, bne_self_eq_false, BitVec.reduceBEq, BitVec.reduceBNe, BitVec.reduceOfInt, BitVec.reduceSetWidth, wrD, engS0, engS1, engS2, engS3, engS4, engS5, engS6, engS7, engS8, engS9, engT0, engT1, engT2, Fx.t3, Fx.t4, Fx.t34, Try.results48, Try.ntmps48, decide_eq_false g1, decide_eq_false g2, f3]
  have ht := dictT_eq ⟨n, by omega⟩
  simp only at ht
  rw [← ht.2]
  exact ⟨ht.1, Fin.flatv (fun _ => rfl) (fun f => rfl) ⟨rfl, rfl, rfl⟩⟩
theorem rdictOk (c : Int) (h1 : -9223372036854775808 ≤ c) (h2 : c < 9223372036854775808) : CallOk Try.prog 49 [.int .i64 c] (fun _ => true) [] 0 fun v m nx => v = .int .u64 (dictN c : Int) ∧ m = [] ∧ nx = 0 := by
  refine fn_ok Try.func49 rfl (by show 1 ≤ _; decide) ?_
  rcases Decidable.em (c < 0) with g1 | g1
  · have e : dictN c = 0 := if_pos (.inl g1)
    simp (config := { maxSteps := 1000000, implicitDefEqProofs := false }) only [-List.reduceReplicate, Nat.reduceBEq, renA, renL, renM, renO, evx, evs, evp, Eng.look, cst, cst1, putd, dstOk, params, loadx, partx, loI, hiI, bltx, mmI, boxx, srcx, calx, nilx, upd, del, resv, fillA, setMany, Nat.reduceLT, Nat.reduceLeDiff, Nat.reduceEqDiff, Nat.reduceAdd, Nat.reduceMul, Nat.reduceSub, reduceIte, reduceCtorEq, if_true, if_false, ite_true, ite_false, eq_self, forall_const, implies_true, Int.reduceLT, Int.reduceLE, Int.reduceToNat, Int.reduceAdd, Int.reduceSub, Int.reduceNeg, ne_eq, Int.reduceEq, Int.reduceNe, Int.reduceBEq, Int.reduceBNe, beq_self_eq_true, bne_self_eq_false, BitVec.reduceBEq, BitVec.reduceBNe, BitVec.reduceOfInt, BitVec.reduceSetWidth, wrD, engS0, engS1, engS2, engS3, engS4, engS5, engS6, engS7, engS8, engS9, engT0, engT1, engT2, Fx.t3, Fx.t4, Fx.t30, Try.results49, Try.ntmps49, decide_eq_true g1, e]
    exact Fin.flatv (fun _ => rfl) (fun f => rfl) ⟨rfl, rfl, rfl⟩
  rcases Decidable.em (c > 40) with g2 | g2
  · have e : dictN c = 0 := if_pos (.inr g2)
    simp (config := { maxSteps := 1000000, implicitDefEqProofs := false }) only [-List.reduceReplicate, Nat.reduceBEq, renA, renL, renM, renO, evx, evs, evp, Eng.look, cst, cst1, putd, dstOk, params, loadx, partx, loI, hiI, bltx, mmI, boxx, srcx, calx, nilx, upd, del, resv, fillA, setMany, Nat.reduceLT, Nat.reduceLeDiff, Nat.reduceEqDiff, Nat.reduceAdd, Nat.reduceMul, Nat.reduceSub, reduceIte, reduceCtorEq, if_true, if_false, ite_true, ite_false, eq_self, forall_const, implies_true, Int.reduceLT, Int.reduceLE, Int.reduceToNat, Int.reduceAdd, Int.reduceSub, Int.reduceNeg, ne_eq, Int.reduceEq, Int.reduceNe, Int.reduceBEq, Int.reduceBNe, beq_self_eq_true, bne_self_eq_false, BitVec.reduceBEq, BitVec.reduceBNe, BitVec.reduceOfInt, BitVec.reduceSetWidth, wrD, engS0, engS1, engS2, engS3, engS4, engS5, engS6, engS7, engS8, engS9, engT0, engT1, engT2, Fx.t3, Fx.t4, Fx.t30, Try.results49, Try.ntmps49, decide_eq_false g1, decide_eq_true g2, e]
    exact Fin.flatv (fun _ => rfl) (fun f => rfl) ⟨rfl, rfl, rfl⟩
  obtain ⟨n, rfl⟩ : ∃ n : Nat, c = n := ⟨c.toNat, by omega⟩
  rw [dictN_nat n (by omega)]
  rcases Decidable.em (n = 40) with rfl | g3
  · rw [show ((40 : Nat) : Int) = 40 from rfl]
    have q1 : decide ((40 : Int) < 0) = false := rfl
    have q2 : decide ((40 : Int) > 40) = false := rfl
    have q3 : ((40 : Int) == 40) = true := rfl
    simp (config := { maxSteps := 1000000, implicitDefEqProofs := false }) only [-List.reduceReplicate, Nat.reduceBEq, renA, renL, renM, renO, evx, evs, evp, Eng.look, cst, cst1, putd, dstOk, params, loadx, partx, loI, hiI, bltx, mmI, boxx, srcx, calx, nilx, upd, del, resv, fillA, setMany, Nat.reduceLT, Nat.reduceLeDiff, Nat.reduceEqDiff, Nat.reduceAdd, Nat.reduceMul, Nat.reduceSub, reduceIte, reduceCtorEq, if_true, if_false, ite_true, ite_false, eq_self, forall_const, implies_true, Int.reduceLT, Int.reduceLE, Int.reduceToNat, Int.reduceAdd, Int.reduceSub, Int.reduceNeg, ne_eq, Int.reduceEq, Int.reduceNe, Int.reduceBEq, Int.reduceBNe, beq_self_eq_true, bne_self_eq_false, BitVec.reduceBEq, BitVec.reduceBNe, BitVec.reduceOfInt, BitVec.reduceSetWidth, wrD, engS0, engS1, engS2, engS3, engS4, engS5, engS6, engS7, engS8, engS9, engT0, engT1, engT2, Fx.t3, Fx.t4, Fx.t30, Try.results49, Try.ntmps49, q1, q2, q3]
    exact Fin.flatv (fun _ => rfl) (fun f => rfl) ⟨rfl, rfl, rfl⟩
  have f3 : (((n : Nat) : Int) == 40) = false := by simp; omega
  have m2 : (n : Int).tmod 2 = ((n % 2 : Nat) : Int) := by rw [Int.tmod_eq_emod_of_nonneg (by omega)]; omega
  have d2 : (n : Int).tdiv 2 = ((n / 2 : Nat) : Int) := by rw [Int.tdiv_eq_ediv_of_nonneg (by omega)]; omega
  have w1 : IntKind.i64.wrap ((n / 2 : Nat) : Int) = ((n / 2 : Nat) : Int) := by rw [wrap_i64] <;> omega
  have w2 : IntKind.i64.wrap (((n / 2 : Nat) : Int) + 11) = ((n / 2 + 11 : Nat) : Int) := by rw [wrap_i64] <;> omega
  have w3 : IntKind.i64.wrap (2 + ((n % 2 : Nat) : Int)) = ((2 + n % 2 : Nat) : Int) := by rw [wrap_i64] <;> omega
  simp (config := { maxSteps := 1000000, implicitDefEqProofs := false }) only [-List.reduceReplicate, Nat.reduceBEq, renA, renL, renM, renO, evx, evs, evp, Eng.look, cst, cst1, putd, dstOk, params, loadx, partx, loI, hiI, bltx, mmI, boxx, srcx, calx, nilx, upd, del, resv, fillA, setMany, Nat.reduceLT, Nat.reduceLeDiff, Nat.reduceEqDiff, Nat.reduceAdd, Nat.reduceMul, Nat.reduceSub, reduceIte, reduceCtorEq, if_true, if_false, ite_true, ite_false, eq_self, forall_const, implies_true, Int.reduceLT, Int.reduceLE, Int.reduceToNat, Int.reduceAdd, Int.reduceSub, Int.reduceNeg, ne_eq, Int.reduceEq, Int.reduceNe, Int.reduceBEq, Int.reduceBNe, beq_self_eq_true, bne_self_eq_false, BitVec.reduceBEq, BitVec.reduceBNe, BitVec.reduceOfInt, BitVec.reduceSetWidth, wrD, engS0, engS1, engS2, engS3, engS4, engS5, engS6, engS7, engS8, engS9, engT0, engT1, engT2, Fx.t3, Fx.t4, Fx.t30, Try.results49, Try.ntmps49, decide_eq_false g1, decide_eq_false g2, f3, m2, d2, w1, w2, w3]
  have e0 : (BitVec.ofInt 64 ((2 + n % 2 : Nat) : Int)).toNat = 2 + n % 2 := by rw [BitVec.toNat_ofInt]; omega
  refine LoopOk.up (n / 2 + 11) (fun i => ([(4, .int .i64 i), (3, .int .u64 ((BitVec.ofNat 64 ((2 + n % 2) * 2 ^ i)).toNat : Int)), (0, .int .i64 ((n : Nat) : Int))], [], 0)) ?_ ?_
  · refine Le.sameN ⟨rfl, by rw [Nat.pow_zero, Nat.mul_one]; rfl, rfl, trivial⟩ List.nodup_nil
  intro i hi
  have wi : IntKind.i64.wrap ((i : Int) + 1) = ((i + 1 : Nat) : Int) := by rw [wrap_i64] <;> omega
  have hp : 2#64 * BitVec.ofNat 64 ((2 + n % 2) * 2 ^ i) = BitVec.ofNat 64 ((2 + n % 2) * 2 ^ (i + 1)) := by
    rw [Nat.pow_succ, ← Nat.mul_assoc, Nat.mul_comm _ 2]
    apply BitVec.eq_of_toNat_eq
    simp only [BitVec.toNat_mul, BitVec.toNat_ofNat, Nat.mul_mod, Nat.mod_mod]
  rcases Nat.lt_or_ge i (n / 2 + 11) with h | h
  · have f1 : decide ((i : Int) < ((n / 2 + 11 : Nat) : Int)) = true := by simp; omega
    simp (config := { maxSteps := 1000000, implicitDefEqProofs := false }) only [-List.reduceReplicate, Nat.reduceBEq, renA, renL, renM, renO, evx, evs, evp, Eng.look, cst, cst1, putd, dstOk, params, loadx, partx, loI, hiI, bltx, mmI, boxx, srcx, calx, nilx, upd, del, resv, fillA, setMany, Nat.reduceLT, Nat.reduceLeDiff, Nat.reduceEqDiff, Nat.reduceAdd, Nat.reduceMul, Nat.reduceSub, reduceIte, reduceCtorEq, if_true, if_false, ite_true, ite_false, eq_self, forall_const, implies_true, Int.reduceLT, Int.reduceLE, Int.reduceToNat, Int.reduceAdd, Int.reduceSub, Int.reduceNeg, ne_eq, Int.reduceEq, Int.reduceNe, Int.reduceBEq, Int.reduceBNe, beq_self_eq_true, bne_self_eq_false, BitVec.reduceBEq, BitVec.reduceBNe, BitVec.reduceOfInt, BitVec.reduceSetWidth, wrD, engS0, engS1, engS2, engS3, engS4, engS5, engS6, engS7, engS8, engS9, engT0, engT1, engT2, Fx.t3, Fx.t4, Fx.t30, d2, w1, w2, wi, f1, hp]
    exact UpK_normal h (Le.sameN ⟨rfl, rfl, rfl, trivial⟩ List.nodup_nil)
  · have hi' : i = n / 2 + 11 := by omega
    subst hi'
    have f1 : decide (((n / 2 + 11 : Nat) : Int) < ((n / 2 + 11 : Nat) : Int)) = false := by simp
    simp (config := { maxSteps := 1000000, implicitDefEqProofs := false }) only [-List.reduceReplicate, Nat.reduceBEq, renA, renL, renM, renO, evx, evs, evp, Eng.look, cst, cst1, putd, dstOk, params, loadx, partx, loI, hiI, bltx, mmI, boxx, srcx, calx, nilx, upd, del, resv, fillA, setMany, Nat.reduceLT, Nat.reduceLeDiff, Nat.reduceEqDiff, Nat.reduceAdd, Nat.reduceMul, Nat.reduceSub, reduceIte, reduceCtorEq, if_true, if_false, ite_true, ite_false, eq_self, forall_const, implies_true, Int.reduceLT, Int.reduceLE, Int.reduceToNat, Int.reduceAdd, Int.reduceSub, Int.reduceNeg, ne_eq, Int.reduceEq, Int.reduceNe, Int.reduceBEq, Int.reduceBNe, beq_self_eq_true, bne_self_eq_false, BitVec.reduceBEq, BitVec.reduceBNe, BitVec.reduceOfInt, BitVec.reduceSetWidth, wrD, engS0, engS1, engS2, engS3, engS4, engS5, engS6, engS7, engS8, engS9, engT0, engT1, engT2, Fx.t3, Fx.t4, Fx.t30, d2, w1, w2, wi, f1]
    have hd : (BitVec.ofNat 64 ((2 + n % 2) * 2 ^ (n / 2 + 11))).toNat = dicT n := by
      have := dicT_lt ⟨n, by omega⟩
      simp only [dicT, g3, if_false] at this
      rw [BitVec.toNat_ofNat, dicT, if_neg g3]
      omega
    rw [hd]
    exact Fin.flatv (fun _ => rfl) (fun f => rfl) ⟨rfl, rfl, rfl⟩
end Go.Proofs.Ytiibjaommelkkaa
