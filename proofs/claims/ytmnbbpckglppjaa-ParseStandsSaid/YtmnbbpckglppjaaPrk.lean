/- Parsing: the law's examples. -/
import Derived.Test.YtmnbbpckglppjaaEng19
import Derived.Test.YtmnbbpckglppjaaEng26
import Derived.Test.YtmnbbpckglppjaaPrl
set_option linter.unusedVariables false
set_option linter.unusedSimpArgs false
set_option maxRecDepth 100000
namespace Go.Proofs.Ytmnbbpckglppjaa
open Go Go.Eng

set_option maxHeartbeats 2000000 in
theorem knows10 : CallG false Try.prog 45 [] (fun _ => true) [] 0 fun v m nx => v = .bool true ∧ m = [] ∧ nx = 0 := by
  refine fn_okG Try.func45 rfl (Nat.zero_le _) ?_
  simp (config := { maxSteps := 1000000, implicitDefEqProofs := false }) only [-List.reduceReplicate, Nat.reduceBEq, renA, renL, renM, renO, evx, evs, evp, Eng.look, cst, cst1, putd, dstOk, params, loadx, partx, loI, hiI, bltx, mmI, boxx, srcx, calx, nilx, upd, del, resv, fillA, setMany, Nat.reduceLT, Nat.reduceLeDiff, Nat.reduceEqDiff, Nat.reduceAdd, Nat.reduceMul, Nat.reduceSub, reduceIte, reduceCtorEq, if_true, if_false, ite_true, ite_false, eq_self, forall_const, implies_true, Int.reduceLT, Int.reduceLE, Int.reduceToNat, Int.reduceAdd, Int.reduceSub, Int.reduceNeg, ne_eq, Int.reduceEq, Int.reduceNe, Int.reduceBEq, Int.reduceBNe, beq_self_eq_true, bne_self_eq_false, BitVec.reduceBEq, BitVec.reduceBNe, BitVec.reduceOfInt, BitVec.reduceSetWidth, wrD, engS0, engS1, engS2, engS3, engS4, engS5, engS6, engS7, engS8, engS9, engU0, engT0, engT1, engT2, Fx.t1, Fx.t2, Fx.t3, Fx.t4, Fx.t5, Fx.t23, Fx.t25, Fx.t35, Fx.t75, Fx.t76, Fx.t82, Fx.t83, Fx.t91, Fx.t109, Fx.t110, Fx.t111, Fx.t112, Fx.t113, Fx.en20, Fx.en46, Try.results45, Try.ntmps45]
  refine ⟨.inr trivial, ?_⟩
  refine callNew (d := [97#8, 97#8, 97#8, 97#8]) (by decide) ⟨⟨rfl, rfl, rfl, (fun h => by cases h), by decide, rfl⟩, rfl, rfl, trivial⟩ (by simp) (by simp) (fun h => by omega) ?_
  intro _ a m nx F h1 h2 h3 _
  simp (config := { maxSteps := 1000000, implicitDefEqProofs := false }) only [-List.reduceReplicate, Nat.reduceBEq, renA, renL, renM, renO, evx, evs, evp, Eng.look, cst, cst1, putd, dstOk, params, loadx, partx, loI, hiI, bltx, mmI, boxx, srcx, calx, nilx, upd, del, resv, fillA, setMany, Nat.reduceLT, Nat.reduceLeDiff, Nat.reduceEqDiff, Nat.reduceAdd, Nat.reduceMul, Nat.reduceSub, reduceIte, reduceCtorEq, if_true, if_false, ite_true, ite_false, eq_self, forall_const, implies_true, Int.reduceLT, Int.reduceLE, Int.reduceToNat, Int.reduceAdd, Int.reduceSub, Int.reduceNeg, ne_eq, Int.reduceEq, Int.reduceNe, Int.reduceBEq, Int.reduceBNe, beq_self_eq_true, bne_self_eq_false, BitVec.reduceBEq, BitVec.reduceBNe, BitVec.reduceOfInt, BitVec.reduceSetWidth, wrD, engS0, engS1, engS2, engS3, engS4, engS5, engS6, engS7, engS8, engS9, engU0, engT0, engT1, engT2, Fx.t1, Fx.t2, Fx.t3, Fx.t4, Fx.t5, Fx.t23, Fx.t25, Fx.t35, Fx.t75, Fx.t76, Fx.t82, Fx.t83, Fx.t91, Fx.t109, Fx.t110, Fx.t111, Fx.t112, Fx.t113, Fx.en20, Fx.en46]
  refine ⟨.inr trivial, ?_⟩
  have hS : symsF [97#8, 97#8, 97#8, 97#8] 9 273 4 (4 - 0) 0 ⟨1, 1, 1, 1⟩ = ([Lit 97#8, Rpt 3 0], ⟨1, 1, 1, 1⟩) := by kernel_rfl
  have hC := symbolsOkS (wr := fun _ => true) (m := (nx, AObj.fz (bvs .u8 [97#8, 97#8, 97#8, 97#8]) 5) :: m) (nx := nx + 1) (f := a) (d := [97#8, 97#8, 97#8, 97#8]) (dict := 9) (nice := 273) (hh := nx) (hcap := 4) (by rw [look_cons, if_pos rfl]) (Nat.lt_succ_self _) ((rdmT h1).cons h2 _) (cons_lt h2 _)
    (F.ext (Nat.le_succ _) fun k o hk h => by rw [look_cons, if_neg (by omega)]; exact h) (by decide) 0 4 (by decide) (by decide) (by decide) ⟨1, 1, 1, 1⟩
  rw [hS] at hC
  refine CallG.weak (show CallG false Try.prog 46 _ (fun _ => true) _ (nx + 1) _ from hC) ?_
  rintro v m2 nx2 ⟨o, rfl, ho, rfl, hx⟩
  rcases o with _ | ⟨n, cap, sp⟩
  · exact absurd ho (by intro h; cases h)
  obtain ⟨c1, c2, c3, c4, c5⟩ : nx + 1 ≤ n ∧ n < nx2 ∧ 2 ≤ cap ∧ cap ≤ maxI ∧ sp.length = (cap - 2) * 5 := ho
  have f1 : (nx2 = n) = False := eq_false (by omega)
  have f2 : (nx2 + 1 = n) = False := eq_false (by omega)
  have f3 : (nx2 + 1 = nx2) = False := eq_false (by omega)
  simp (config := { maxSteps := 1000000, implicitDefEqProofs := false }) only [-List.reduceReplicate, Nat.reduceBEq, renA, renL, renM, renO, evx, evs, evp, Eng.look, cst, cst1, putd, dstOk, params, loadx, partx, loI, hiI, bltx, mmI, boxx, srcx, calx, nilx, upd, del, resv, fillA, setMany, Nat.reduceLT, Nat.reduceLeDiff, Nat.reduceEqDiff, Nat.reduceAdd, Nat.reduceMul, Nat.reduceSub, reduceIte, reduceCtorEq, if_true, if_false, ite_true, ite_false, eq_self, forall_const, implies_true, Int.reduceLT, Int.reduceLE, Int.reduceToNat, Int.reduceAdd, Int.reduceSub, Int.reduceNeg, ne_eq, Int.reduceEq, Int.reduceNe, Int.reduceBEq, Int.reduceBNe, beq_self_eq_true, bne_self_eq_false, BitVec.reduceBEq, BitVec.reduceBNe, BitVec.reduceOfInt, BitVec.reduceSetWidth, wrD, engS0, engS1, engS2, engS3, engS4, engS5, engS6, engS7, engS8, engS9, engU0, engT0, engT1, engT2, Fx.t1, Fx.t2, Fx.t3, Fx.t4, Fx.t5, Fx.t23, Fx.t25, Fx.t35, Fx.t75, Fx.t76, Fx.t82, Fx.t83, Fx.t91, Fx.t109, Fx.t110, Fx.t111, Fx.t112, Fx.t113, Fx.en20, Fx.en46, outA, outM, R4.av, f1, f2, f3]
  refine (symbolsNil .nils 0 0 ⟨0, 0, 0, 0⟩).flat0 ⟨rfl, rfl, rfl, rfl, rfl, trivial⟩ (fun _ => rfl) rfl ?_
  have f4 : (nx2 + 1 = nx2) = False := eq_false (by omega)
  have s0 := sym_at [Lit 97#8, Rpt 3 0] (sp.map AV.val) 0 (Lit 97#8) rfl
  have s1 := sym_at [Lit 97#8, Rpt 3 0] (sp.map AV.val) 1 (Rpt 3 0) rfl
  have g0 : List.take 5 (List.flatMap symC [Lit 97#8, Rpt 3 0] ++ sp.map AV.val) = symC (Lit 97#8) := s0.1
  have g1 : List.take 5 (List.drop 5 (List.flatMap symC [Lit 97#8, Rpt 3 0] ++ sp.map AV.val)) = symC (Rpt 3 0) := s1.1
  have l0 := symLits (Lit 97#8) (by decide) (by decide) (by decide) (by decide)
  have l1 := symLits (Rpt 3 0) (by decide) (by decide) (by decide) (by decide)
  have l2 : aggLits Try.prog 76 [.int .i64 1, .int .i64 1, .int .i64 1, .int .i64 1] = some [Lit.int .i64 1, Lit.int .i64 1, Lit.int .i64 1, Lit.int .i64 1] := by kernel_rfl
  have l0' : aggLits Try.prog 83 [.int .i64 0, .int .u8 97, .int .i64 0, .int .i64 0, .int .i64 0] = some _ := l0
  have l1' : aggLits Try.prog 83 [.int .i64 2, .int .u8 0, .int .i64 3, .int .i64 0, .int .i64 0] = some _ := l1
  have z1 : spl (List.replicate 4 (AV.int .i64 0)) 0 [.int .i64 1, .int .i64 1, .int .i64 1, .int .i64 1] = [.int .i64 1, .int .i64 1, .int .i64 1, .int .i64 1] := rfl
  have z2 : List.take 4 [AV.int .i64 1, .int .i64 1, .int .i64 1, .int .i64 1] = [.int .i64 1, .int .i64 1, .int .i64 1, .int .i64 1] := rfl
  have z3 : ((((List.replicate 4 (AV.int .i64 0)).set 0 (.int .i64 1)).set 1 (.int .i64 1)).set 2 (.int .i64 1)).set 3 (.int .i64 1) = [.int .i64 1, .int .i64 1, .int .i64 1, .int .i64 1] := rfl
  simp (config := { maxSteps := 1000000, implicitDefEqProofs := false }) only [-List.reduceReplicate, Nat.reduceBEq, renA, renL, renM, renO, evx, evs, evp, Eng.look, cst, cst1, putd, dstOk, params, loadx, partx, loI, hiI, bltx, mmI, boxx, srcx, calx, nilx, upd, del, resv, fillA, setMany, Nat.reduceLT, Nat.reduceLeDiff, Nat.reduceEqDiff, Nat.reduceAdd, Nat.reduceMul, Nat.reduceSub, reduceIte, reduceCtorEq, if_true, if_false, ite_true, ite_false, eq_self, forall_const, implies_true, Int.reduceLT, Int.reduceLE, Int.reduceToNat, Int.reduceAdd, Int.reduceSub, Int.reduceNeg, ne_eq, Int.reduceEq, Int.reduceNe, Int.reduceBEq, Int.reduceBNe, beq_self_eq_true, bne_self_eq_false, BitVec.reduceBEq, BitVec.reduceBNe, BitVec.reduceOfInt, BitVec.reduceSetWidth, wrD, engS0, engS1, engS2, engS3, engS4, engS5, engS6, engS7, engS8, engS9, engU0, engT0, engT1, engT2, Fx.t1, Fx.t2, Fx.t3, Fx.t4, Fx.t5, Fx.t23, Fx.t25, Fx.t35, Fx.t75, Fx.t76, Fx.t82, Fx.t83, Fx.t91, Fx.t109, Fx.t110, Fx.t111, Fx.t112, Fx.t113, Fx.en20, Fx.en46, f1, f2, f3, f4, symRow, g0, g1, l0, l1, l0', l1', l2, z1, z2, z3, litEq_self, beq_self_eq_true]
  refine ⟨by have := s0.2; rw [List.length_append, List.length_map] at this; exact this, by have := s1.2; rw [List.length_append, List.length_map] at this; exact this, ?_⟩
  exact Fin.anyv (fun _ => rfl)
theorem kn10 {fz : Bool} {wr : Nat → Bool} {m : Mem} {nx : Nat} {K : Kv} (h : K (.bool true) m nx) : CallG fz Try.prog 45 [] wr m nx K := knows10.flat0 trivial (fun _ => rfl) rfl h
end Go.Proofs.Ytmnbbpckglppjaa
