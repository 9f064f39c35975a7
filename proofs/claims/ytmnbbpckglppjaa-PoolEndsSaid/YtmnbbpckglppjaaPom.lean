/- Turns: the document's examples. -/
import Derived.Test.YtmnbbpckglppjaaEng19
import Derived.Test.YtmnbbpckglppjaaEng26
import Derived.Test.YtmnbbpckglppjaaPol
set_option linter.unusedVariables false
set_option linter.unusedSimpArgs false
set_option maxRecDepth 100000
namespace Go.Proofs.Ytmnbbpckglppjaa
open Go Go.Eng

theorem doneNil : CallG false Try.prog 66 [.nilp] (fun _ => true) [] 0 fun v m nx => v = .bool false ∧ m = [] ∧ nx = 0 := by
  refine fn_okG Try.func66 rfl (by show 1 ≤ _; decide) ?_
  simp (config := { maxSteps := 1000000, implicitDefEqProofs := false }) only [-List.reduceReplicate, Nat.reduceBEq, renA, renL, renM, renO, evx, evs, evp, Eng.look, cst, cst1, putd, dstOk, params, loadx, partx, loI, hiI, bltx, mmI, boxx, srcx, calx, nilx, upd, del, resv, fillA, setMany, Nat.reduceLT, Nat.reduceLeDiff, Nat.reduceEqDiff, Nat.reduceAdd, Nat.reduceMul, Nat.reduceSub, reduceIte, reduceCtorEq, if_true, if_false, ite_true, ite_false, eq_self, forall_const, implies_true, Int.reduceLT, Int.reduceLE, Int.reduceToNat, Int.reduceAdd, Int.reduceSub, Int.reduceNeg, ne_eq, Int.reduceEq, Int.reduceNe, Int.reduceBEq, Int.reduceBNe, beq_self_eq_true, bne_self_eq_false, BitVec.reduceBEq, BitVec.reduceBNe, BitVec.reduceOfInt, BitVec.reduceSetWidth, wrD, engS0, engS1, engS2, engS3, engS4, engS5, engS6, engS7, engS8, engS9, engU0, engT0, engT1, engT2, Fx.t3, Fx.t4, Fx.t5, Fx.t6, Fx.t91, Fx.t92, Fx.t137, Fx.t138, Fx.t139, Try.results66, Try.ntmps66]
  refine ⟨Fx.mixed, .inl ⟨[(0, false), (1, false), (2, false), (3, false), (4, false), (5, false), (6, false), (7, false), (8, false), (9, false), (10, false), (11, false), (12, false), (13, false), (14, false)], [], by kernel_rfl, (fun n hn => by cases hn), ?_⟩⟩
  simp (config := { maxSteps := 1000000, implicitDefEqProofs := false }) only [-List.reduceReplicate, Nat.reduceBEq, renA, renL, renM, renO, evx, evs, evp, Eng.look, cst, cst1, putd, dstOk, params, loadx, partx, loI, hiI, bltx, mmI, boxx, srcx, calx, nilx, upd, del, resv, fillA, setMany, Nat.reduceLT, Nat.reduceLeDiff, Nat.reduceEqDiff, Nat.reduceAdd, Nat.reduceMul, Nat.reduceSub, reduceIte, reduceCtorEq, if_true, if_false, ite_true, ite_false, eq_self, forall_const, implies_true, Int.reduceLT, Int.reduceLE, Int.reduceToNat, Int.reduceAdd, Int.reduceSub, Int.reduceNeg, ne_eq, Int.reduceEq, Int.reduceNe, Int.reduceBEq, Int.reduceBNe, beq_self_eq_true, bne_self_eq_false, BitVec.reduceBEq, BitVec.reduceBNe, BitVec.reduceOfInt, BitVec.reduceSetWidth, wrD, engS0, engS1, engS2, engS3, engS4, engS5, engS6, engS7, engS8, engS9, engU0, engT0, engT1, engT2, Fx.t3, Fx.t4, Fx.t5, Fx.t6, Fx.t91, Fx.t92, Fx.t137, Fx.t138, Fx.t139]
  exact Fin.anyv (fun _ => rfl)
set_option maxHeartbeats 4000000 in
theorem knows21 : CallG false Try.prog 53 [] (fun _ => true) [] 0 fun v m nx => v = .bool true ∧ m = [] ∧ nx = 0 := by
  refine fn_okG Try.func53 rfl (Nat.zero_le _) ?_
  simp (config := { maxSteps := 1000000, implicitDefEqProofs := false }) only [-List.reduceReplicate, Nat.reduceBEq, renA, renL, renM, renO, evx, evs, evp, Eng.look, cst, cst1, putd, dstOk, params, loadx, partx, loI, hiI, bltx, mmI, boxx, srcx, calx, nilx, upd, del, resv, fillA, setMany, Nat.reduceLT, Nat.reduceLeDiff, Nat.reduceEqDiff, Nat.reduceAdd, Nat.reduceMul, Nat.reduceSub, reduceIte, reduceCtorEq, if_true, if_false, ite_true, ite_false, eq_self, forall_const, implies_true, Int.reduceLT, Int.reduceLE, Int.reduceToNat, Int.reduceAdd, Int.reduceSub, Int.reduceNeg, ne_eq, Int.reduceEq, Int.reduceNe, Int.reduceBEq, Int.reduceBNe, beq_self_eq_true, bne_self_eq_false, BitVec.reduceBEq, BitVec.reduceBNe, BitVec.reduceOfInt, BitVec.reduceSetWidth, wrD, engS0, engS1, engS2, engS3, engS4, engS5, engS6, engS7, engS8, engS9, engU0, engT0, engT1, engT2, Fx.t1, Fx.t3, Fx.t4, Fx.t25, Fx.t91, Fx.t92, Fx.t137, Fx.t138, Fx.t139, Fx.en54, Fx.en59, Fx.en65, Fx.en66, Try.results53, Try.ntmps53]
  refine (CallG.any (newPOk 1 1 1)).weak ?_
  intro v m0 N0 h
  rw [NewK, if_neg (by decide)] at h
  obtain ⟨a, b, c, rfl, D0, lt0, P0⟩ := h
  have P0 : PoolAt m0 N0 a b c 1 1 (newS 1) .nils .nils [] [] [] := P0
  have M0 := Sim.new' 1 1 1
  simp (config := { maxSteps := 1000000, implicitDefEqProofs := false }) only [-List.reduceReplicate, Nat.reduceBEq, renA, renL, renM, renO, evx, evs, evp, Eng.look, cst, cst1, putd, dstOk, params, loadx, partx, loI, hiI, bltx, mmI, boxx, srcx, calx, nilx, upd, del, resv, fillA, setMany, Nat.reduceLT, Nat.reduceLeDiff, Nat.reduceEqDiff, Nat.reduceAdd, Nat.reduceMul, Nat.reduceSub, reduceIte, reduceCtorEq, if_true, if_false, ite_true, ite_false, eq_self, forall_const, implies_true, Int.reduceLT, Int.reduceLE, Int.reduceToNat, Int.reduceAdd, Int.reduceSub, Int.reduceNeg, ne_eq, Int.reduceEq, Int.reduceNe, Int.reduceBEq, Int.reduceBNe, beq_self_eq_true, bne_self_eq_false, BitVec.reduceBEq, BitVec.reduceBNe, BitVec.reduceOfInt, BitVec.reduceSetWidth, wrD, engS0, engS1, engS2, engS3, engS4, engS5, engS6, engS7, engS8, engS9, engU0, engT0, engT1, engT2, Fx.t1, Fx.t3, Fx.t4, Fx.t25, Fx.t91, Fx.t92, Fx.t137, Fx.t138, Fx.t139, Fx.en54, Fx.en59, Fx.en65, Fx.en66]
  have e1 : mayP 1 1 (newS 1) 0 = (0, true) := by kernel_rfl
  have s1 : stpP 1 1 (newS 1) 0 = ⟨1, [0], [-1], [], 0⟩ := by kernel_rfl
  have M1 := (M0.step 0).2.2
  rw [s1] at M1
  refine (CallG.any (StepT D0 lt0 P0 M0.free (M0.less (by decide)) 0 (by decide))).weak ?_
  rintro v m1 N1 ⟨rfl, x1, D1, lt1, ⟨Q1, O1, qs1, os1, bo1, P1, _⟩, _⟩
  rw [s1] at P1
  rw [e1]
  simp (config := { maxSteps := 1000000, implicitDefEqProofs := false }) only [-List.reduceReplicate, Nat.reduceBEq, renA, renL, renM, renO, evx, evs, evp, Eng.look, cst, cst1, putd, dstOk, params, loadx, partx, loI, hiI, bltx, mmI, boxx, srcx, calx, nilx, upd, del, resv, fillA, setMany, Nat.reduceLT, Nat.reduceLeDiff, Nat.reduceEqDiff, Nat.reduceAdd, Nat.reduceMul, Nat.reduceSub, reduceIte, reduceCtorEq, if_true, if_false, ite_true, ite_false, eq_self, forall_const, implies_true, Int.reduceLT, Int.reduceLE, Int.reduceToNat, Int.reduceAdd, Int.reduceSub, Int.reduceNeg, ne_eq, Int.reduceEq, Int.reduceNe, Int.reduceBEq, Int.reduceBNe, beq_self_eq_true, bne_self_eq_false, BitVec.reduceBEq, BitVec.reduceBNe, BitVec.reduceOfInt, BitVec.reduceSetWidth, wrD, engS0, engS1, engS2, engS3, engS4, engS5, engS6, engS7, engS8, engS9, engU0, engT0, engT1, engT2, Fx.t1, Fx.t3, Fx.t4, Fx.t25, Fx.t91, Fx.t92, Fx.t137, Fx.t138, Fx.t139, Fx.en54, Fx.en59, Fx.en65, Fx.en66, erN]
  have e2 : mayP 1 1 ⟨1, [0], [-1], [], 0⟩ 1 = (0, true) := by kernel_rfl
  have s2 : stpP 1 1 ⟨1, [0], [-1], [], 0⟩ 1 = ⟨1, [], [0], [], 0⟩ := by kernel_rfl
  have M2 := (M1.step 1).2.2
  rw [s2] at M2
  refine (CallG.any (StepT D1 lt1 P1 M1.free (M1.less (by decide)) 1 (by decide))).weak ?_
  rintro v m2 N2 ⟨rfl, x2, D2, lt2, ⟨Q2, O2, qs2, os2, bo2, P2, _⟩, _⟩
  rw [s2] at P2
  rw [e2]
  simp (config := { maxSteps := 1000000, implicitDefEqProofs := false }) only [-List.reduceReplicate, Nat.reduceBEq, renA, renL, renM, renO, evx, evs, evp, Eng.look, cst, cst1, putd, dstOk, params, loadx, partx, loI, hiI, bltx, mmI, boxx, srcx, calx, nilx, upd, del, resv, fillA, setMany, Nat.reduceLT, Nat.reduceLeDiff, Nat.reduceEqDiff, Nat.reduceAdd, Nat.reduceMul, Nat.reduceSub, reduceIte, reduceCtorEq, if_true, if_false, ite_true, ite_false, eq_self, forall_const, implies_true, Int.reduceLT, Int.reduceLE, Int.reduceToNat, Int.reduceAdd, Int.reduceSub, Int.reduceNeg, ne_eq, Int.reduceEq, Int.reduceNe, Int.reduceBEq, Int.reduceBNe, beq_self_eq_true, bne_self_eq_false, BitVec.reduceBEq, BitVec.reduceBNe, BitVec.reduceOfInt, BitVec.reduceSetWidth, wrD, engS0, engS1, engS2, engS3, engS4, engS5, engS6, engS7, engS8, engS9, engU0, engT0, engT1, engT2, Fx.t1, Fx.t3, Fx.t4, Fx.t25, Fx.t91, Fx.t92, Fx.t137, Fx.t138, Fx.t139, Fx.en54, Fx.en59, Fx.en65, Fx.en66, erN]
  have e3 : mayP 1 1 ⟨1, [], [0], [], 0⟩ 2 = (0, false) := by kernel_rfl
  have s3 : stpP 1 1 ⟨1, [], [0], [], 0⟩ 2 = ⟨1, [], [0], [], 0⟩ := by kernel_rfl
  have M3 := (M2.step 2).2.2
  rw [s3] at M3
  refine (CallG.any (StepT D2 lt2 P2 M2.free (M2.less (by decide)) 2 (by decide))).weak ?_
  rintro v m3 N3 ⟨rfl, x3, D3, lt3, ⟨Q3, O3, qs3, os3, bo3, P3, _⟩, _⟩
  rw [s3] at P3
  rw [e3]
  simp (config := { maxSteps := 1000000, implicitDefEqProofs := false }) only [-List.reduceReplicate, Nat.reduceBEq, renA, renL, renM, renO, evx, evs, evp, Eng.look, cst, cst1, putd, dstOk, params, loadx, partx, loI, hiI, bltx, mmI, boxx, srcx, calx, nilx, upd, del, resv, fillA, setMany, Nat.reduceLT, Nat.reduceLeDiff, Nat.reduceEqDiff, Nat.reduceAdd, Nat.reduceMul, Nat.reduceSub, reduceIte, reduceCtorEq, if_true, if_false, ite_true, ite_false, eq_self, forall_const, implies_true, Int.reduceLT, Int.reduceLE, Int.reduceToNat, Int.reduceAdd, Int.reduceSub, Int.reduceNeg, ne_eq, Int.reduceEq, Int.reduceNe, Int.reduceBEq, Int.reduceBNe, beq_self_eq_true, bne_self_eq_false, BitVec.reduceBEq, BitVec.reduceBNe, BitVec.reduceOfInt, BitVec.reduceSetWidth, wrD, engS0, engS1, engS2, engS3, engS4, engS5, engS6, engS7, engS8, engS9, engU0, engT0, engT1, engT2, Fx.t1, Fx.t3, Fx.t4, Fx.t25, Fx.t91, Fx.t92, Fx.t137, Fx.t138, Fx.t139, Fx.en54, Fx.en59, Fx.en65, Fx.en66, erN]
  have e4 : mayP 1 1 ⟨1, [], [0], [], 0⟩ 1 = (0, true) := by kernel_rfl
  have s4 : stpP 1 1 ⟨1, [], [0], [], 0⟩ 1 = ⟨1, [], [-1], [0], 0⟩ := by kernel_rfl
  have M4 := (M3.step 1).2.2
  rw [s4] at M4
  refine (CallG.any (StepT D3 lt3 P3 M3.free (M3.less (by decide)) 1 (by decide))).weak ?_
  rintro v m4 N4 ⟨rfl, x4, D4, lt4, ⟨Q4, O4, qs4, os4, bo4, P4, _⟩, _⟩
  rw [s4] at P4
  rw [e4]
  simp (config := { maxSteps := 1000000, implicitDefEqProofs := false }) only [-List.reduceReplicate, Nat.reduceBEq, renA, renL, renM, renO, evx, evs, evp, Eng.look, cst, cst1, putd, dstOk, params, loadx, partx, loI, hiI, bltx, mmI, boxx, srcx, calx, nilx, upd, del, resv, fillA, setMany, Nat.reduceLT, Nat.reduceLeDiff, Nat.reduceEqDiff, Nat.reduceAdd, Nat.reduceMul, Nat.reduceSub, reduceIte, reduceCtorEq, if_true, if_false, ite_true, ite_false, eq_self, forall_const, implies_true, Int.reduceLT, Int.reduceLE, Int.reduceToNat, Int.reduceAdd, Int.reduceSub, Int.reduceNeg, ne_eq, Int.reduceEq, Int.reduceNe, Int.reduceBEq, Int.reduceBNe, beq_self_eq_true, bne_self_eq_false, BitVec.reduceBEq, BitVec.reduceBNe, BitVec.reduceOfInt, BitVec.reduceSetWidth, wrD, engS0, engS1, engS2, engS3, engS4, engS5, engS6, engS7, engS8, engS9, engU0, engT0, engT1, engT2, Fx.t1, Fx.t3, Fx.t4, Fx.t25, Fx.t91, Fx.t92, Fx.t137, Fx.t138, Fx.t139, Fx.en54, Fx.en59, Fx.en65, Fx.en66, erN]
  have e5 : mayP 1 1 ⟨1, [], [-1], [0], 0⟩ 2 = (0, true) := by kernel_rfl
  have s5 : stpP 1 1 ⟨1, [], [-1], [0], 0⟩ 2 = ⟨1, [], [-1], [], 1⟩ := by kernel_rfl
  have M5 := (M4.step 2).2.2
  rw [s5] at M5
  refine (CallG.any (StepT D4 lt4 P4 M4.free (M4.less (by decide)) 2 (by decide))).weak ?_
  rintro v m5 N5 ⟨rfl, x5, D5, lt5, ⟨Q5, O5, qs5, os5, bo5, P5, _⟩, _⟩
  rw [s5] at P5
  rw [e5]
  simp (config := { maxSteps := 1000000, implicitDefEqProofs := false }) only [-List.reduceReplicate, Nat.reduceBEq, renA, renL, renM, renO, evx, evs, evp, Eng.look, cst, cst1, putd, dstOk, params, loadx, partx, loI, hiI, bltx, mmI, boxx, srcx, calx, nilx, upd, del, resv, fillA, setMany, Nat.reduceLT, Nat.reduceLeDiff, Nat.reduceEqDiff, Nat.reduceAdd, Nat.reduceMul, Nat.reduceSub, reduceIte, reduceCtorEq, if_true, if_false, ite_true, ite_false, eq_self, forall_const, implies_true, Int.reduceLT, Int.reduceLE, Int.reduceToNat, Int.reduceAdd, Int.reduceSub, Int.reduceNeg, ne_eq, Int.reduceEq, Int.reduceNe, Int.reduceBEq, Int.reduceBNe, beq_self_eq_true, bne_self_eq_false, BitVec.reduceBEq, BitVec.reduceBNe, BitVec.reduceOfInt, BitVec.reduceSetWidth, wrD, engS0, engS1, engS2, engS3, engS4, engS5, engS6, engS7, engS8, engS9, engU0, engT0, engT1, engT2, Fx.t1, Fx.t3, Fx.t4, Fx.t25, Fx.t91, Fx.t92, Fx.t137, Fx.t138, Fx.t139, Fx.en54, Fx.en59, Fx.en65, Fx.en66, erN]
  refine (CallG.any (doneOk D5 P5)).weak ?_
  rintro v m6 N6 ⟨rfl, rfl, rfl⟩
  simp (config := { maxSteps := 1000000, implicitDefEqProofs := false }) only [-List.reduceReplicate, Nat.reduceBEq, renA, renL, renM, renO, evx, evs, evp, Eng.look, cst, cst1, putd, dstOk, params, loadx, partx, loI, hiI, bltx, mmI, boxx, srcx, calx, nilx, upd, del, resv, fillA, setMany, Nat.reduceLT, Nat.reduceLeDiff, Nat.reduceEqDiff, Nat.reduceAdd, Nat.reduceMul, Nat.reduceSub, reduceIte, reduceCtorEq, if_true, if_false, ite_true, ite_false, eq_self, forall_const, implies_true, Int.reduceLT, Int.reduceLE, Int.reduceToNat, Int.reduceAdd, Int.reduceSub, Int.reduceNeg, ne_eq, Int.reduceEq, Int.reduceNe, Int.reduceBEq, Int.reduceBNe, beq_self_eq_true, bne_self_eq_false, BitVec.reduceBEq, BitVec.reduceBNe, BitVec.reduceOfInt, BitVec.reduceSetWidth, wrD, engS0, engS1, engS2, engS3, engS4, engS5, engS6, engS7, engS8, engS9, engU0, engT0, engT1, engT2, Fx.t1, Fx.t3, Fx.t4, Fx.t25, Fx.t91, Fx.t92, Fx.t137, Fx.t138, Fx.t139, Fx.en54, Fx.en59, Fx.en65, Fx.en66]
  refine doneNil.flat0 ⟨rfl, trivial⟩ (fun _ => rfl) rfl ?_
  simp (config := { maxSteps := 1000000, implicitDefEqProofs := false }) only [-List.reduceReplicate, Nat.reduceBEq, renA, renL, renM, renO, evx, evs, evp, Eng.look, cst, cst1, putd, dstOk, params, loadx, partx, loI, hiI, bltx, mmI, boxx, srcx, calx, nilx, upd, del, resv, fillA, setMany, Nat.reduceLT, Nat.reduceLeDiff, Nat.reduceEqDiff, Nat.reduceAdd, Nat.reduceMul, Nat.reduceSub, reduceIte, reduceCtorEq, if_true, if_false, ite_true, ite_false, eq_self, forall_const, implies_true, Int.reduceLT, Int.reduceLE, Int.reduceToNat, Int.reduceAdd, Int.reduceSub, Int.reduceNeg, ne_eq, Int.reduceEq, Int.reduceNe, Int.reduceBEq, Int.reduceBNe, beq_self_eq_true, bne_self_eq_false, BitVec.reduceBEq, BitVec.reduceBNe, BitVec.reduceOfInt, BitVec.reduceSetWidth, wrD, engS0, engS1, engS2, engS3, engS4, engS5, engS6, engS7, engS8, engS9, engU0, engT0, engT1, engT2, Fx.t1, Fx.t3, Fx.t4, Fx.t25, Fx.t91, Fx.t92, Fx.t137, Fx.t138, Fx.t139, Fx.en54, Fx.en59, Fx.en65, Fx.en66]
  refine (CallG.any (outOk D5 lt5 P5)).weak ?_
  rintro v m7 N7 ⟨o, rfl, ho, rfl, x7⟩
  rcases o with _ | ⟨n, cap, sp⟩
  · exact absurd (show rngZ 1 = [] from ho) (by decide)
  have hl : (rngZ 1).length = 1 := rfl
  simp (config := { maxSteps := 1000000, implicitDefEqProofs := false }) only [-List.reduceReplicate, Nat.reduceBEq, renA, renL, renM, renO, evx, evs, evp, Eng.look, cst, cst1, putd, dstOk, params, loadx, partx, loI, hiI, bltx, mmI, boxx, srcx, calx, nilx, upd, del, resv, fillA, setMany, Nat.reduceLT, Nat.reduceLeDiff, Nat.reduceEqDiff, Nat.reduceAdd, Nat.reduceMul, Nat.reduceSub, reduceIte, reduceCtorEq, if_true, if_false, ite_true, ite_false, eq_self, forall_const, implies_true, Int.reduceLT, Int.reduceLE, Int.reduceToNat, Int.reduceAdd, Int.reduceSub, Int.reduceNeg, ne_eq, Int.reduceEq, Int.reduceNe, Int.reduceBEq, Int.reduceBNe, beq_self_eq_true, bne_self_eq_false, BitVec.reduceBEq, BitVec.reduceBNe, BitVec.reduceOfInt, BitVec.reduceSetWidth, wrD, engS0, engS1, engS2, engS3, engS4, engS5, engS6, engS7, engS8, engS9, engU0, engT0, engT1, engT2, Fx.t1, Fx.t3, Fx.t4, Fx.t25, Fx.t91, Fx.t92, Fx.t137, Fx.t138, Fx.t139, Fx.en54, Fx.en59, Fx.en65, Fx.en66, zA, hl]
  exact Fin.anyv (fun _ => rfl)
end Go.Proofs.Ytmnbbpckglppjaa
