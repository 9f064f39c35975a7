/- The least code that stands for so much. -/
import Derived.Test.YtiibjaommelkkaaEng19
import Derived.Test.YtiibjaommelkkaaEng26
import Derived.Test.YtiibjaommelkkaaChaa
set_option linter.unusedVariables false
set_option linter.unusedSimpArgs false
set_option maxRecDepth 100000
namespace Go.Proofs.Ytiibjaommelkkaa
open Go Go.Eng

def codeR (d : Nat) : Nat → Nat
  | 0 => 40
  | k + 1 => if d ≤ dicT (40 - k) then 40 - k else codeR d k
def codeV (d : Nat) : Nat := codeR d 41
theorem codeR_ok (d : Nat) (hd : d < 4294967296) : ∀ k, k ≤ 41 → codeR d k ≤ 40 ∧ d ≤ dicT (codeR d k) ∧ ∀ i, 41 - k ≤ i → i < codeR d k → dicT i < d
  | 0, _ => ⟨Nat.le_refl _, by show d ≤ 4294967295; omega, fun i h1 h2 => by simp only [codeR] at h2; omega⟩
  | k + 1, hk => by
    obtain ⟨h1, h2, h3⟩ := codeR_ok d hd k (by omega)
    rw [codeR]
    split
    · rename_i h
      exact ⟨by omega, h, fun i g1 g2 => by omega⟩
    · rename_i h
      refine ⟨h1, h2, fun i g1 g2 => ?_⟩
      rcases Nat.lt_or_ge i (41 - k) with g | g
      · rw [show i = 40 - k by omega]; omega
      · exact h3 i g g2
theorem codeV_ok (d : Nat) (hd : d < 4294967296) : codeV d ≤ 40 ∧ d ≤ dicT (codeV d) ∧ ∀ i, i < codeV d → dicT i < d := by
  obtain ⟨h1, h2, h3⟩ := codeR_ok d hd 41 (Nat.le_refl _)
  exact ⟨h1, h2, fun i hi => h3 i (by omega) hi⟩
theorem codeOk' (d : BitVec 32) : CallOk Try.prog 46 [.int .u32 (d.toNat : Int)] (fun _ => true) [] 0 fun v m nx => v = .int .i64 (codeV d.toNat : Int) ∧ m = [] ∧ nx = 0 := by
  refine fn_ok Try.func46 rfl (by show 1 ≤ _; decide) ?_
  obtain ⟨h1, h2, h3⟩ := codeV_ok d.toNat d.isLt
  simp (config := { maxSteps := 1000000, implicitDefEqProofs := false }) only [-List.reduceReplicate, Nat.reduceBEq, renA, renL, renM, renO, evx, evs, evp, Eng.look, cst, cst1, putd, dstOk, params, loadx, partx, loI, hiI, bltx, mmI, boxx, srcx, calx, nilx, upd, del, resv, fillA, setMany, Nat.reduceLT, Nat.reduceLeDiff, Nat.reduceEqDiff, Nat.reduceAdd, Nat.reduceMul, Nat.reduceSub, reduceIte, reduceCtorEq, if_true, if_false, ite_true, ite_false, eq_self, forall_const, implies_true, Int.reduceLT, Int.reduceLE, Int.reduceToNat, Int.reduceAdd, Int.reduceSub, Int.reduceNeg, ne_eq, Int.reduceEq, Int.reduceNe, Int.reduceBEq, Int.reduceBNe, beq_self_eq_true, bne_self_eq_false, BitVec.reduceBEq, BitVec.reduceBNe, BitVec.reduceOfInt, BitVec.reduceSetWidth, wrD, engS0, engS1, engS2, engS3, engS4, engS5, engS6, engS7, engS8, engS9, engT0, engT1, engT2, Fx.t3, Fx.t4, Fx.t34, Fx.en48, Try.results46, Try.ntmps46]
  refine LoopOk.up (codeV d.toNat) (fun i => ([(3, .int .i64 i), (0, .int .u32 (d.toNat : Int))], [], 0)) (Le.sameN ⟨rfl, rfl, trivial⟩ List.nodup_nil) ?_
  intro i hi
  have wi : IntKind.i64.wrap ((i : Int) + 1) = ((i + 1 : Nat) : Int) := by rw [wrap_i64] <;> omega
  simp (config := { maxSteps := 1000000, implicitDefEqProofs := false }) only [-List.reduceReplicate, Nat.reduceBEq, renA, renL, renM, renO, evx, evs, evp, Eng.look, cst, cst1, putd, dstOk, params, loadx, partx, loI, hiI, bltx, mmI, boxx, srcx, calx, nilx, upd, del, resv, fillA, setMany, Nat.reduceLT, Nat.reduceLeDiff, Nat.reduceEqDiff, Nat.reduceAdd, Nat.reduceMul, Nat.reduceSub, reduceIte, reduceCtorEq, if_true, if_false, ite_true, ite_false, eq_self, forall_const, implies_true, Int.reduceLT, Int.reduceLE, Int.reduceToNat, Int.reduceAdd, Int.reduceSub, Int.reduceNeg, ne_eq, Int.reduceEq, Int.reduceNe, Int.reduceBEq, Int.reduceBNe, beq_self_eq_true, bne_self_eq_false, BitVec.reduceBEq, BitVec.reduceBNe, BitVec.reduceOfInt, BitVec.reduceSetWidth, wrD, engS0, engS1, engS2, engS3, engS4, engS5, engS6, engS7, engS8, engS9, engT0, engT1, engT2, Fx.t3, Fx.t4, Fx.t34, Fx.en48]
  refine (dictOk (i : Int) (by omega) (by omega)).flatv (by simp only [argsx, argx_int, argx_bool, argx_fn, argx_ro, argx_nils, eq_self, true_and, and_true, and_self]; try trivial) (fun _ => rfl) rfl ?_
  rw [dictN_nat i (by omega)]
  rcases Nat.lt_or_ge i (codeV d.toNat) with h | h
  · have f1 : decide ((dicT i : Int) < (d.toNat : Int)) = true := by have := h3 i h; simp; omega
    simp (config := { maxSteps := 1000000, implicitDefEqProofs := false }) only [-List.reduceReplicate, Nat.reduceBEq, renA, renL, renM, renO, evx, evs, evp, Eng.look, cst, cst1, putd, dstOk, params, loadx, partx, loI, hiI, bltx, mmI, boxx, srcx, calx, nilx, upd, del, resv, fillA, setMany, Nat.reduceLT, Nat.reduceLeDiff, Nat.reduceEqDiff, Nat.reduceAdd, Nat.reduceMul, Nat.reduceSub, reduceIte, reduceCtorEq, if_true, if_false, ite_true, ite_false, eq_self, forall_const, implies_true, Int.reduceLT, Int.reduceLE, Int.reduceToNat, Int.reduceAdd, Int.reduceSub, Int.reduceNeg, ne_eq, Int.reduceEq, Int.reduceNe, Int.reduceBEq, Int.reduceBNe, beq_self_eq_true, bne_self_eq_false, BitVec.reduceBEq, BitVec.reduceBNe, BitVec.reduceOfInt, BitVec.reduceSetWidth, wrD, engS0, engS1, engS2, engS3, engS4, engS5, engS6, engS7, engS8, engS9, engT0, engT1, engT2, Fx.t3, Fx.t4, Fx.t34, Fx.en48, f1, wi]
    exact UpK_normal h (Le.sameN ⟨rfl, rfl, trivial⟩ List.nodup_nil)
  · have hi' : i = codeV d.toNat := by omega
    have f1 : decide ((dicT i : Int) < (d.toNat : Int)) = false := by rw [hi']; simp; omega
    simp (config := { maxSteps := 1000000, implicitDefEqProofs := false }) only [-List.reduceReplicate, Nat.reduceBEq, renA, renL, renM, renO, evx, evs, evp, Eng.look, cst, cst1, putd, dstOk, params, loadx, partx, loI, hiI, bltx, mmI, boxx, srcx, calx, nilx, upd, del, resv, fillA, setMany, Nat.reduceLT, Nat.reduceLeDiff, Nat.reduceEqDiff, Nat.reduceAdd, Nat.reduceMul, Nat.reduceSub, reduceIte, reduceCtorEq, if_true, if_false, ite_true, ite_false, eq_self, forall_const, implies_true, Int.reduceLT, Int.reduceLE, Int.reduceToNat, Int.reduceAdd, Int.reduceSub, Int.reduceNeg, ne_eq, Int.reduceEq, Int.reduceNe, Int.reduceBEq, Int.reduceBNe, beq_self_eq_true, bne_self_eq_false, BitVec.reduceBEq, BitVec.reduceBNe, BitVec.reduceOfInt, BitVec.reduceSetWidth, wrD, engS0, engS1, engS2, engS3, engS4, engS5, engS6, engS7, engS8, engS9, engT0, engT1, engT2, Fx.t3, Fx.t4, Fx.t34, Fx.en48, f1, wi]
    exact Fin.flatv (fun _ => rfl) (fun f => rfl) ⟨by rw [hi'], rfl, rfl⟩
theorem rcodeOk' (d : BitVec 32) : CallOk Try.prog 47 [.int .u32 (d.toNat : Int)] (fun _ => true) [] 0 fun v m nx => v = .int .i64 (codeV d.toNat : Int) ∧ m = [] ∧ nx = 0 := by
  refine fn_ok Try.func47 rfl (by show 1 ≤ _; decide) ?_
  simp (config := { maxSteps := 1000000, implicitDefEqProofs := false }) only [-List.reduceReplicate, Nat.reduceBEq, renA, renL, renM, renO, evx, evs, evp, Eng.look, cst, cst1, putd, dstOk, params, loadx, partx, loI, hiI, bltx, mmI, boxx, srcx, calx, nilx, upd, del, resv, fillA, setMany, Nat.reduceLT, Nat.reduceLeDiff, Nat.reduceEqDiff, Nat.reduceAdd, Nat.reduceMul, Nat.reduceSub, reduceIte, reduceCtorEq, if_true, if_false, ite_true, ite_false, eq_self, forall_const, implies_true, Int.reduceLT, Int.reduceLE, Int.reduceToNat, Int.reduceAdd, Int.reduceSub, Int.reduceNeg, ne_eq, Int.reduceEq, Int.reduceNe, Int.reduceBEq, Int.reduceBNe, beq_self_eq_true, bne_self_eq_false, BitVec.reduceBEq, BitVec.reduceBNe, BitVec.reduceOfInt, BitVec.reduceSetWidth, wrD, engS0, engS1, engS2, engS3, engS4, engS5, engS6, engS7, engS8, engS9, engT0, engT1, engT2, Fx.t3, Fx.t4, Fx.t30, Fx.t34, Fx.en49, Try.results47, Try.ntmps47]
  refine LoopOk.up 41 (fun j => ([(4, .int .i64 (40 - (j : Int))), (3, .int .i64 (codeR d.toNat j : Int)), (0, .int .u32 (d.toNat : Int))], [], 0)) (Le.sameN ⟨rfl, rfl, rfl, trivial⟩ List.nodup_nil) ?_
  have hsw : (BitVec.setWidth 64 d).toNat = d.toNat := by have := d.isLt; rw [BitVec.toNat_setWidth]; omega
  intro j hj
  have wj : IntKind.i64.wrap (40 - (j : Int) - 1) = 40 - ((j + 1 : Nat) : Int) := by rw [wrap_i64] <;> omega
  have hnx : codeR d.toNat (j + 1) = if d.toNat ≤ dicT (40 - j) then 40 - j else codeR d.toNat j := rfl
  rcases Nat.lt_or_ge j 41 with h | h
  · have f1 : decide (40 - (j : Int) ≥ 0) = true := by simp; omega
    simp (config := { maxSteps := 1000000, implicitDefEqProofs := false }) only [-List.reduceReplicate, Nat.reduceBEq, renA, renL, renM, renO, evx, evs, evp, Eng.look, cst, cst1, putd, dstOk, params, loadx, partx, loI, hiI, bltx, mmI, boxx, srcx, calx, nilx, upd, del, resv, fillA, setMany, Nat.reduceLT, Nat.reduceLeDiff, Nat.reduceEqDiff, Nat.reduceAdd, Nat.reduceMul, Nat.reduceSub, reduceIte, reduceCtorEq, if_true, if_false, ite_true, ite_false, eq_self, forall_const, implies_true, Int.reduceLT, Int.reduceLE, Int.reduceToNat, Int.reduceAdd, Int.reduceSub, Int.reduceNeg, ne_eq, Int.reduceEq, Int.reduceNe, Int.reduceBEq, Int.reduceBNe, beq_self_eq_true, bne_self_eq_false, BitVec.reduceBEq, BitVec.reduceBNe, BitVec.reduceOfInt, BitVec.reduceSetWidth, wrD, engS0, engS1, engS2, engS3, engS4, engS5, engS6, engS7, engS8, engS9, engT0, engT1, engT2, Fx.t3, Fx.t4, Fx.t30, Fx.t34, Fx.en49, f1]
    refine (rdictOk (40 - (j : Int)) (by omega) (by omega)).flatv (by simp only [argsx, argx_int, argx_bool, argx_fn, argx_ro, argx_nils, eq_self, true_and, and_true, and_self]; try trivial) (fun _ => rfl) rfl ?_
    rw [show (40 - (j : Int)) = ((40 - j : Nat) : Int) by omega, dictN_nat (40 - j) (by omega)]
    rw [show (40 - (j : Int)) = ((40 - j : Nat) : Int) by omega] at wj
    rcases Decidable.em (d.toNat ≤ dicT (40 - j)) with g | g
    · rw [if_pos g] at hnx
      have f2 : decide ((dicT (40 - j) : Int) ≥ (d.toNat : Int)) = true := by simp; omega
      simp (config := { maxSteps := 1000000, implicitDefEqProofs := false }) only [-List.reduceReplicate, Nat.reduceBEq, renA, renL, renM, renO, evx, evs, evp, Eng.look, cst, cst1, putd, dstOk, params, loadx, partx, loI, hiI, bltx, mmI, boxx, srcx, calx, nilx, upd, del, resv, fillA, setMany, Nat.reduceLT, Nat.reduceLeDiff, Nat.reduceEqDiff, Nat.reduceAdd, Nat.reduceMul, Nat.reduceSub, reduceIte, reduceCtorEq, if_true, if_false, ite_true, ite_false, eq_self, forall_const, implies_true, Int.reduceLT, Int.reduceLE, Int.reduceToNat, Int.reduceAdd, Int.reduceSub, Int.reduceNeg, ne_eq, Int.reduceEq, Int.reduceNe, Int.reduceBEq, Int.reduceBNe, beq_self_eq_true, bne_self_eq_false, BitVec.reduceBEq, BitVec.reduceBNe, BitVec.reduceOfInt, BitVec.reduceSetWidth, wrD, engS0, engS1, engS2, engS3, engS4, engS5, engS6, engS7, engS8, engS9, engT0, engT1, engT2, Fx.t3, Fx.t4, Fx.t30, Fx.t34, Fx.en49, hsw, f2, wj]
      exact UpK_normal h (Le.sameN ⟨rfl, by rw [hnx]; rfl, rfl, trivial⟩ List.nodup_nil)
    · rw [if_neg g] at hnx
      have f2 : decide ((dicT (40 - j) : Int) ≥ (d.toNat : Int)) = false := by simp; omega
      simp (config := { maxSteps := 1000000, implicitDefEqProofs := false }) only [-List.reduceReplicate, Nat.reduceBEq, renA, renL, renM, renO, evx, evs, evp, Eng.look, cst, cst1, putd, dstOk, params, loadx, partx, loI, hiI, bltx, mmI, boxx, srcx, calx, nilx, upd, del, resv, fillA, setMany, Nat.reduceLT, Nat.reduceLeDiff, Nat.reduceEqDiff, Nat.reduceAdd, Nat.reduceMul, Nat.reduceSub, reduceIte, reduceCtorEq, if_true, if_false, ite_true, ite_false, eq_self, forall_const, implies_true, Int.reduceLT, Int.reduceLE, Int.reduceToNat, Int.reduceAdd, Int.reduceSub, Int.reduceNeg, ne_eq, Int.reduceEq, Int.reduceNe, Int.reduceBEq, Int.reduceBNe, beq_self_eq_true, bne_self_eq_false, BitVec.reduceBEq, BitVec.reduceBNe, BitVec.reduceOfInt, BitVec.reduceSetWidth, wrD, engS0, engS1, engS2, engS3, engS4, engS5, engS6, engS7, engS8, engS9, engT0, engT1, engT2, Fx.t3, Fx.t4, Fx.t30, Fx.t34, Fx.en49, hsw, f2, wj]
      exact UpK_normal h (Le.sameN ⟨rfl, by rw [hnx]; rfl, rfl, trivial⟩ List.nodup_nil)
  · have hj' : j = 41 := by omega
    subst hj'
    have f1 : decide ((-1 : Int) ≥ 0) = false := rfl
    simp (config := { maxSteps := 1000000, implicitDefEqProofs := false }) only [-List.reduceReplicate, Nat.reduceBEq, renA, renL, renM, renO, evx, evs, evp, Eng.look, cst, cst1, putd, dstOk, params, loadx, partx, loI, hiI, bltx, mmI, boxx, srcx, calx, nilx, upd, del, resv, fillA, setMany, Nat.reduceLT, Nat.reduceLeDiff, Nat.reduceEqDiff, Nat.reduceAdd, Nat.reduceMul, Nat.reduceSub, reduceIte, reduceCtorEq, if_true, if_false, ite_true, ite_false, eq_self, forall_const, implies_true, Int.reduceLT, Int.reduceLE, Int.reduceToNat, Int.reduceAdd, Int.reduceSub, Int.reduceNeg, ne_eq, Int.reduceEq, Int.reduceNe, Int.reduceBEq, Int.reduceBNe, beq_self_eq_true, bne_self_eq_false, BitVec.reduceBEq, BitVec.reduceBNe, BitVec.reduceOfInt, BitVec.reduceSetWidth, wrD, engS0, engS1, engS2, engS3, engS4, engS5, engS6, engS7, engS8, engS9, engT0, engT1, engT2, Fx.t3, Fx.t4, Fx.t30, Fx.t34, Fx.en49, f1]
    exact Fin.flatv (fun _ => rfl) (fun f => rfl) ⟨rfl, rfl, rfl⟩
end Go.Proofs.Ytiibjaommelkkaa
