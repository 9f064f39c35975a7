/- Numbers of a variable length: the law on what is got. -/
import Derived.Test.YtmnbbpckglppjaaEng19
import Derived.Test.YtmnbbpckglppjaaEng26
import Derived.Test.YtmnbbpckglppjaaVli
set_option linter.unusedVariables false
set_option linter.unusedSimpArgs false
set_option maxRecDepth 100000
namespace Go.Proofs.Ytmnbbpckglppjaa
open Go Go.Eng

theorem gRes_e (b : List (BitVec 8)) : ∀ f i, (gRes b f i).2.2 = 0 ∨ (gRes b f i).2.2 = 2 ∨ (gRes b f i).2.2 = 6
  | 0, i => .inr (.inr rfl)
  | f + 1, i => by
    rw [gRes]
    split
    · exact .inr (.inl rfl)
    · split
      · exact .inl rfl
      · split
        · exact .inr (.inr rfl)
        · exact gRes_e b f (i + 1)
set_option maxHeartbeats 2000000 in
theorem vliGetsOk (b : List (BitVec 8)) (hb : b.length ≤ maxLen) :
    CallOk Try.prog 4 [.ro b.length (bvs .u8 b)] (fun _ => true) [] 0 fun v _ _ => v = .bool true := by
  refine fn_ok Try.func4 rfl (by show 1 ≤ _; decide) ?_
  have fin : ∀ {m : Mem} {nx : Nat}, Eng.Fin 0 (fun _ => true) m nx (fun v _ _ => v = .bool true) (.bool true) := Fin.flatv (fun _ => rfl) (fun _ => rfl) rfl
  rcases Decidable.em (50 < b.length) with h1 | h1
  · have e1 : decide ((b.length : Int) > 50) = true := by simp; omega
    simp (config := { maxSteps := 1000000, implicitDefEqProofs := false }) only [-List.reduceReplicate, Nat.reduceBEq, renA, renL, renM, renO, evx, evs, evp, Eng.look, cst, cst1, putd, dstOk, params, loadx, partx, loI, hiI, bltx, mmI, boxx, srcx, calx, nilx, upd, del, resv, fillA, setMany, Nat.reduceLT, Nat.reduceLeDiff, Nat.reduceEqDiff, Nat.reduceAdd, Nat.reduceMul, Nat.reduceSub, reduceIte, reduceCtorEq, if_true, if_false, ite_true, ite_false, eq_self, forall_const, implies_true, Int.reduceLT, Int.reduceLE, Int.reduceToNat, Int.reduceAdd, Int.reduceSub, Int.reduceNeg, ne_eq, Int.reduceEq, Int.reduceNe, Int.reduceBEq, Int.reduceBNe, beq_self_eq_true, bne_self_eq_false, BitVec.reduceBEq, BitVec.reduceBNe, BitVec.reduceOfInt, BitVec.reduceSetWidth, wrD, engS0, engS1, engS2, engS3, engS4, engS5, engS6, engS7, engS8, engS9, engU0, engT0, engT1, engT2, Fx.t1, Fx.t2, Fx.t3, Fx.t4, Fx.t5, Fx.t9, Fx.t22, Fx.t23, Fx.t25, Fx.en14, Fx.en15, Fx.en16, Fx.en18, Try.results4, Try.ntmps4, e1]
    refine kn04 ?_
    simp (config := { maxSteps := 1000000, implicitDefEqProofs := false }) only [-List.reduceReplicate, Nat.reduceBEq, renA, renL, renM, renO, evx, evs, evp, Eng.look, cst, cst1, putd, dstOk, params, loadx, partx, loI, hiI, bltx, mmI, boxx, srcx, calx, nilx, upd, del, resv, fillA, setMany, Nat.reduceLT, Nat.reduceLeDiff, Nat.reduceEqDiff, Nat.reduceAdd, Nat.reduceMul, Nat.reduceSub, reduceIte, reduceCtorEq, if_true, if_false, ite_true, ite_false, eq_self, forall_const, implies_true, Int.reduceLT, Int.reduceLE, Int.reduceToNat, Int.reduceAdd, Int.reduceSub, Int.reduceNeg, ne_eq, Int.reduceEq, Int.reduceNe, Int.reduceBEq, Int.reduceBNe, beq_self_eq_true, bne_self_eq_false, BitVec.reduceBEq, BitVec.reduceBNe, BitVec.reduceOfInt, BitVec.reduceSetWidth, wrD, engS0, engS1, engS2, engS3, engS4, engS5, engS6, engS7, engS8, engS9, engU0, engT0, engT1, engT2, Fx.t1, Fx.t2, Fx.t3, Fx.t4, Fx.t5, Fx.t9, Fx.t22, Fx.t23, Fx.t25, Fx.en14, Fx.en15, Fx.en16, Fx.en18]
    exact fin
  have e1 : decide ((b.length : Int) > 50) = false := by simp; omega
  have hG := vgetOk b (by omega)
  have hR := rgetOk b (by omega)
  obtain ⟨n, k, e, hr⟩ : ∃ n k e, gRes b 9 0 = (n, k, e) := ⟨_, _, _, rfl⟩
  rw [hr] at hG hR
  simp (config := { maxSteps := 1000000, implicitDefEqProofs := false }) only [-List.reduceReplicate, Nat.reduceBEq, renA, renL, renM, renO, evx, evs, evp, Eng.look, cst, cst1, putd, dstOk, params, loadx, partx, loI, hiI, bltx, mmI, boxx, srcx, calx, nilx, upd, del, resv, fillA, setMany, Nat.reduceLT, Nat.reduceLeDiff, Nat.reduceEqDiff, Nat.reduceAdd, Nat.reduceMul, Nat.reduceSub, reduceIte, reduceCtorEq, if_true, if_false, ite_true, ite_false, eq_self, forall_const, implies_true, Int.reduceLT, Int.reduceLE, Int.reduceToNat, Int.reduceAdd, Int.reduceSub, Int.reduceNeg, ne_eq, Int.reduceEq, Int.reduceNe, Int.reduceBEq, Int.reduceBNe, beq_self_eq_true, bne_self_eq_false, BitVec.reduceBEq, BitVec.reduceBNe, BitVec.reduceOfInt, BitVec.reduceSetWidth, wrD, engS0, engS1, engS2, engS3, engS4, engS5, engS6, engS7, engS8, engS9, engU0, engT0, engT1, engT2, Fx.t1, Fx.t2, Fx.t3, Fx.t4, Fx.t5, Fx.t9, Fx.t22, Fx.t23, Fx.t25, Fx.en14, Fx.en15, Fx.en16, Fx.en18, Try.results4, Try.ntmps4, e1]
  refine hG.flat0 (by simp only [argsx, argx_int, argx_bool, argx_fn, argx_ro, argx_nils, eq_self, true_and, and_true, and_self]; try trivial) (gRet_ren _) rfl ?_
  simp (config := { maxSteps := 1000000, implicitDefEqProofs := false }) only [-List.reduceReplicate, Nat.reduceBEq, renA, renL, renM, renO, evx, evs, evp, Eng.look, cst, cst1, putd, dstOk, params, loadx, partx, loI, hiI, bltx, mmI, boxx, srcx, calx, nilx, upd, del, resv, fillA, setMany, Nat.reduceLT, Nat.reduceLeDiff, Nat.reduceEqDiff, Nat.reduceAdd, Nat.reduceMul, Nat.reduceSub, reduceIte, reduceCtorEq, if_true, if_false, ite_true, ite_false, eq_self, forall_const, implies_true, Int.reduceLT, Int.reduceLE, Int.reduceToNat, Int.reduceAdd, Int.reduceSub, Int.reduceNeg, ne_eq, Int.reduceEq, Int.reduceNe, Int.reduceBEq, Int.reduceBNe, beq_self_eq_true, bne_self_eq_false, BitVec.reduceBEq, BitVec.reduceBNe, BitVec.reduceOfInt, BitVec.reduceSetWidth, wrD, engS0, engS1, engS2, engS3, engS4, engS5, engS6, engS7, engS8, engS9, engU0, engT0, engT1, engT2, Fx.t1, Fx.t2, Fx.t3, Fx.t4, Fx.t5, Fx.t9, Fx.t22, Fx.t23, Fx.t25, Fx.en14, Fx.en15, Fx.en16, Fx.en18, gRet]
  refine hR.flat0 (by simp only [argsx, argx_int, argx_bool, argx_fn, argx_ro, argx_nils, eq_self, true_and, and_true, and_self]; try trivial) (gRet_ren _) rfl ?_
  simp (config := { maxSteps := 1000000, implicitDefEqProofs := false }) only [-List.reduceReplicate, Nat.reduceBEq, renA, renL, renM, renO, evx, evs, evp, Eng.look, cst, cst1, putd, dstOk, params, loadx, partx, loI, hiI, bltx, mmI, boxx, srcx, calx, nilx, upd, del, resv, fillA, setMany, Nat.reduceLT, Nat.reduceLeDiff, Nat.reduceEqDiff, Nat.reduceAdd, Nat.reduceMul, Nat.reduceSub, reduceIte, reduceCtorEq, if_true, if_false, ite_true, ite_false, eq_self, forall_const, implies_true, Int.reduceLT, Int.reduceLE, Int.reduceToNat, Int.reduceAdd, Int.reduceSub, Int.reduceNeg, ne_eq, Int.reduceEq, Int.reduceNe, Int.reduceBEq, Int.reduceBNe, beq_self_eq_true, bne_self_eq_false, BitVec.reduceBEq, BitVec.reduceBNe, BitVec.reduceOfInt, BitVec.reduceSetWidth, wrD, engS0, engS1, engS2, engS3, engS4, engS5, engS6, engS7, engS8, engS9, engU0, engT0, engT1, engT2, Fx.t1, Fx.t2, Fx.t3, Fx.t4, Fx.t5, Fx.t9, Fx.t22, Fx.t23, Fx.t25, Fx.en14, Fx.en15, Fx.en16, Fx.en18, gRet, bne_self_eq_false]
  rcases Decidable.em (e = 0) with he | he
  · subst he
    obtain ⟨m, m1, m2, m3, m4⟩ := get_back b 9 0 n k rfl hr
    have hn : n.toNat < 9223372036854775808 := by
      rw [m1]
      have : (128 : Nat) ^ 9 = 9223372036854775808 := by decide
      rw [this] at m2
      show 0 + m * 1 < _
      omega
    obtain ⟨g1, g2, g3⟩ := m4 10 n (by decide) (by rw [m1]; show 0 + m * 1 = m; omega)
    have hX : putX n = b.take (digs 10 n).length := by
      refine List.ext_getElem? fun j => ?_
      rcases Nat.lt_or_ge j (digs 10 n).length with hj | hj
      · have h1 := g3 j hj
        have l1 : j < ((digs 10 n).map byD).length := by rw [List.length_map]; exact hj
        have l2 : j < b.length := by omega
        rw [Nat.zero_add, List.getD_eq_getElem?_getD, List.getD_eq_getElem?_getD, List.getElem?_eq_getElem l1, List.getElem?_eq_getElem l2] at h1
        rw [List.getElem?_take, if_pos hj, putX, List.getElem?_eq_getElem l1, List.getElem?_eq_getElem l2]
        exact congrArg some h1
      · rw [List.getElem?_take, if_neg (by omega), List.getElem?_eq_none (by rw [putX, List.length_map]; exact hj)]
    simp (config := { maxSteps := 1000000, implicitDefEqProofs := false }) only [-List.reduceReplicate, Nat.reduceBEq, renA, renL, renM, renO, evx, evs, evp, Eng.look, cst, cst1, putd, dstOk, params, loadx, partx, loI, hiI, bltx, mmI, boxx, srcx, calx, nilx, upd, del, resv, fillA, setMany, Nat.reduceLT, Nat.reduceLeDiff, Nat.reduceEqDiff, Nat.reduceAdd, Nat.reduceMul, Nat.reduceSub, reduceIte, reduceCtorEq, if_true, if_false, ite_true, ite_false, eq_self, forall_const, implies_true, Int.reduceLT, Int.reduceLE, Int.reduceToNat, Int.reduceAdd, Int.reduceSub, Int.reduceNeg, ne_eq, Int.reduceEq, Int.reduceNe, Int.reduceBEq, Int.reduceBNe, beq_self_eq_true, bne_self_eq_false, BitVec.reduceBEq, BitVec.reduceBNe, BitVec.reduceOfInt, BitVec.reduceSetWidth, wrD, engS0, engS1, engS2, engS3, engS4, engS5, engS6, engS7, engS8, engS9, engU0, engT0, engT1, engT2, Fx.t1, Fx.t2, Fx.t3, Fx.t4, Fx.t5, Fx.t9, Fx.t22, Fx.t23, Fx.t25, Fx.en14, Fx.en15, Fx.en16, Fx.en18]
    refine (vputOk n hn).newE rfl ?_
    rintro v m' nx' ⟨cap, sp, c1, c2, rfl, rfl, rfl⟩
    simp only [renM, rowO_ren, renA, renL]
    simp (config := { maxSteps := 1000000, implicitDefEqProofs := false }) only [-List.reduceReplicate, Nat.reduceBEq, renA, renL, renM, renO, evx, evs, evp, Eng.look, cst, cst1, putd, dstOk, params, loadx, partx, loI, hiI, bltx, mmI, boxx, srcx, calx, nilx, upd, del, resv, fillA, setMany, Nat.reduceLT, Nat.reduceLeDiff, Nat.reduceEqDiff, Nat.reduceAdd, Nat.reduceMul, Nat.reduceSub, reduceIte, reduceCtorEq, if_true, if_false, ite_true, ite_false, eq_self, forall_const, implies_true, Int.reduceLT, Int.reduceLE, Int.reduceToNat, Int.reduceAdd, Int.reduceSub, Int.reduceNeg, ne_eq, Int.reduceEq, Int.reduceNe, Int.reduceBEq, Int.reduceBNe, beq_self_eq_true, bne_self_eq_false, BitVec.reduceBEq, BitVec.reduceBNe, BitVec.reduceOfInt, BitVec.reduceSetWidth, wrD, engS0, engS1, engS2, engS3, engS4, engS5, engS6, engS7, engS8, engS9, engU0, engT0, engT1, engT2, Fx.t1, Fx.t2, Fx.t3, Fx.t4, Fx.t5, Fx.t9, Fx.t22, Fx.t23, Fx.t25, Fx.en14, Fx.en15, Fx.en16, Fx.en18]
    refine ⟨Fx.mixed, .inl ⟨[(0, false), (1, false), (2, false), (3, false), (4, false), (5, false), (6, false), (7, false), (8, false), (9, false), (10, false), (11, false), (12, true), (13, false), (14, false)], [], by kernel_rfl, (fun n hn => by cases hn), ?_⟩⟩
    simp (config := { maxSteps := 1000000, implicitDefEqProofs := false }) only [-List.reduceReplicate, Nat.reduceBEq, renA, renL, renM, renO, evx, evs, evp, Eng.look, cst, cst1, putd, dstOk, params, loadx, partx, loI, hiI, bltx, mmI, boxx, srcx, calx, nilx, upd, del, resv, fillA, setMany, Nat.reduceLT, Nat.reduceLeDiff, Nat.reduceEqDiff, Nat.reduceAdd, Nat.reduceMul, Nat.reduceSub, reduceIte, reduceCtorEq, if_true, if_false, ite_true, ite_false, eq_self, forall_const, implies_true, Int.reduceLT, Int.reduceLE, Int.reduceToNat, Int.reduceAdd, Int.reduceSub, Int.reduceNeg, ne_eq, Int.reduceEq, Int.reduceNe, Int.reduceBEq, Int.reduceBNe, beq_self_eq_true, bne_self_eq_false, BitVec.reduceBEq, BitVec.reduceBNe, BitVec.reduceOfInt, BitVec.reduceSetWidth, wrD, engS0, engS1, engS2, engS3, engS4, engS5, engS6, engS7, engS8, engS9, engU0, engT0, engT1, engT2, Fx.t1, Fx.t2, Fx.t3, Fx.t4, Fx.t5, Fx.t9, Fx.t22, Fx.t23, Fx.t25, Fx.en14, Fx.en15, Fx.en16, Fx.en18, rowO, List.drop_zero, u8T]
    have hk : k = ((digs 10 n).length : Int) := by omega
    subst hk
    have hT : List.take (((digs 10 n).length : Int).toNat - 0) (List.take (((digs 10 n).length : Int).toNat - 0) b) = putX n := by rw [Int.toNat_natCast, Nat.sub_zero, List.take_take, Nat.min_self, hX]
    refine ⟨Nat.le_add_right _ _, ⟨by omega, by omega⟩, by rw [List.length_take, Int.toNat_natCast]; omega, ?_⟩
    rw [hT]
    simp (config := { maxSteps := 1000000, implicitDefEqProofs := false }) only [-List.reduceReplicate, Nat.reduceBEq, renA, renL, renM, renO, evx, evs, evp, Eng.look, cst, cst1, putd, dstOk, params, loadx, partx, loI, hiI, bltx, mmI, boxx, srcx, calx, nilx, upd, del, resv, fillA, setMany, Nat.reduceLT, Nat.reduceLeDiff, Nat.reduceEqDiff, Nat.reduceAdd, Nat.reduceMul, Nat.reduceSub, reduceIte, reduceCtorEq, if_true, if_false, ite_true, ite_false, eq_self, forall_const, implies_true, Int.reduceLT, Int.reduceLE, Int.reduceToNat, Int.reduceAdd, Int.reduceSub, Int.reduceNeg, ne_eq, Int.reduceEq, Int.reduceNe, Int.reduceBEq, Int.reduceBNe, beq_self_eq_true, bne_self_eq_false, BitVec.reduceBEq, BitVec.reduceBNe, BitVec.reduceOfInt, BitVec.reduceSetWidth, wrD, engS0, engS1, engS2, engS3, engS4, engS5, engS6, engS7, engS8, engS9, engU0, engT0, engT1, engT2, Fx.t1, Fx.t2, Fx.t3, Fx.t4, Fx.t5, Fx.t9, Fx.t22, Fx.t23, Fx.t25, Fx.en14, Fx.en15, Fx.en16, Fx.en18, beq_self_eq_true]
    refine kn04 ?_
    simp (config := { maxSteps := 1000000, implicitDefEqProofs := false }) only [-List.reduceReplicate, Nat.reduceBEq, renA, renL, renM, renO, evx, evs, evp, Eng.look, cst, cst1, putd, dstOk, params, loadx, partx, loI, hiI, bltx, mmI, boxx, srcx, calx, nilx, upd, del, resv, fillA, setMany, Nat.reduceLT, Nat.reduceLeDiff, Nat.reduceEqDiff, Nat.reduceAdd, Nat.reduceMul, Nat.reduceSub, reduceIte, reduceCtorEq, if_true, if_false, ite_true, ite_false, eq_self, forall_const, implies_true, Int.reduceLT, Int.reduceLE, Int.reduceToNat, Int.reduceAdd, Int.reduceSub, Int.reduceNeg, ne_eq, Int.reduceEq, Int.reduceNe, Int.reduceBEq, Int.reduceBNe, beq_self_eq_true, bne_self_eq_false, BitVec.reduceBEq, BitVec.reduceBNe, BitVec.reduceOfInt, BitVec.reduceSetWidth, wrD, engS0, engS1, engS2, engS3, engS4, engS5, engS6, engS7, engS8, engS9, engU0, engT0, engT1, engT2, Fx.t1, Fx.t2, Fx.t3, Fx.t4, Fx.t5, Fx.t9, Fx.t22, Fx.t23, Fx.t25, Fx.en14, Fx.en15, Fx.en16, Fx.en18]
    exact fin
  · have e2 : (e != 0) = true := by simpa using he
    simp (config := { maxSteps := 1000000, implicitDefEqProofs := false }) only [-List.reduceReplicate, Nat.reduceBEq, renA, renL, renM, renO, evx, evs, evp, Eng.look, cst, cst1, putd, dstOk, params, loadx, partx, loI, hiI, bltx, mmI, boxx, srcx, calx, nilx, upd, del, resv, fillA, setMany, Nat.reduceLT, Nat.reduceLeDiff, Nat.reduceEqDiff, Nat.reduceAdd, Nat.reduceMul, Nat.reduceSub, reduceIte, reduceCtorEq, if_true, if_false, ite_true, ite_false, eq_self, forall_const, implies_true, Int.reduceLT, Int.reduceLE, Int.reduceToNat, Int.reduceAdd, Int.reduceSub, Int.reduceNeg, ne_eq, Int.reduceEq, Int.reduceNe, Int.reduceBEq, Int.reduceBNe, beq_self_eq_true, bne_self_eq_false, BitVec.reduceBEq, BitVec.reduceBNe, BitVec.reduceOfInt, BitVec.reduceSetWidth, wrD, engS0, engS1, engS2, engS3, engS4, engS5, engS6, engS7, engS8, engS9, engU0, engT0, engT1, engT2, Fx.t1, Fx.t2, Fx.t3, Fx.t4, Fx.t5, Fx.t9, Fx.t22, Fx.t23, Fx.t25, Fx.en14, Fx.en15, Fx.en16, Fx.en18, e2]
    refine kn04 ?_
    simp (config := { maxSteps := 1000000, implicitDefEqProofs := false }) only [-List.reduceReplicate, Nat.reduceBEq, renA, renL, renM, renO, evx, evs, evp, Eng.look, cst, cst1, putd, dstOk, params, loadx, partx, loI, hiI, bltx, mmI, boxx, srcx, calx, nilx, upd, del, resv, fillA, setMany, Nat.reduceLT, Nat.reduceLeDiff, Nat.reduceEqDiff, Nat.reduceAdd, Nat.reduceMul, Nat.reduceSub, reduceIte, reduceCtorEq, if_true, if_false, ite_true, ite_false, eq_self, forall_const, implies_true, Int.reduceLT, Int.reduceLE, Int.reduceToNat, Int.reduceAdd, Int.reduceSub, Int.reduceNeg, ne_eq, Int.reduceEq, Int.reduceNe, Int.reduceBEq, Int.reduceBNe, beq_self_eq_true, bne_self_eq_false, BitVec.reduceBEq, BitVec.reduceBNe, BitVec.reduceOfInt, BitVec.reduceSetWidth, wrD, engS0, engS1, engS2, engS3, engS4, engS5, engS6, engS7, engS8, engS9, engU0, engT0, engT1, engT2, Fx.t1, Fx.t2, Fx.t3, Fx.t4, Fx.t5, Fx.t9, Fx.t22, Fx.t23, Fx.t25, Fx.en14, Fx.en15, Fx.en16, Fx.en18]
    exact fin
end Go.Proofs.Ytmnbbpckglppjaa
