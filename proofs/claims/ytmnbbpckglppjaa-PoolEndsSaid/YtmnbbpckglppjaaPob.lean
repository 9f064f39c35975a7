/- Turns: the document's pool goes on. -/
import Derived.Test.YtmnbbpckglppjaaEng19
import Derived.Test.YtmnbbpckglppjaaEng26
import Derived.Test.YtmnbbpckglppjaaPoa
set_option linter.unusedVariables false
set_option linter.unusedSimpArgs false
set_option maxRecDepth 100000
namespace Go.Proofs.Ytmnbbpckglppjaa
open Go Go.Eng

/-- the job with which an actor goes on, and where it comes to -/
def nextZ (A : List Int) (W R : Int) (x : Int) : Int × Int :=
  if x < 0 ∨ W + 1 < x then (-1, 0)
  else if x = 0 then (if R ≤ (A.count 1 : Nat) ∨ W + R + 1 ≤ alZ A then (-1, 0) else (fstZ 0 A, 1))
  else if x = W + 1 then (if A.length ≤ A.count 3 then (-1, 0) else if A.getD (A.count 3) 0 = 2 then ((A.count 3 : Nat), 3) else (-1, 0))
  else if 0 < A.count (-x) then (fstZ (-x) A, 2) else (fstZ 1 A, -x)
def stepZ (A : List Int) (W R : Int) (x : Int) : List Int := if 0 ≤ (nextZ A W R x).1 then A.set (nextZ A W R x).1.toNat (nextZ A W R x).2 else A
theorem stepZ_len (A : List Int) (W R x : Int) : (stepZ A W R x).length = A.length := by
  rw [stepZ]; split
  · exact List.length_set ..
  · rfl
theorem fst_lt (x : Int) : ∀ A : List Int, -1 ≤ fstZ x A ∧ fstZ x A < max (A.length : Int) 0
  | [] => by rw [fstZ]; exact ⟨by decide, by decide⟩
  | y :: r => by
    have := fst_lt x r
    rw [fstZ, List.length_cons]
    split
    · omega
    · split <;> omega
theorem nextZ_lt (A : List Int) (W R x : Int) : (nextZ A W R x).1 < max (A.length : Int) 0 := by
  have h0 := fst_lt 0 A
  have h1 := fst_lt 1 A
  have h2 := fst_lt (-x) A
  rw [nextZ]
  split
  · show (-1 : Int) < _; omega
  split
  · split
    · show (-1 : Int) < _; omega
    · exact h0.2
  split
  · split
    · show (-1 : Int) < _; omega
    · split
      · show ((A.count 3 : Nat) : Int) < _; omega
      · show (-1 : Int) < _; omega
  split
  · exact h2.2
  · exact h1.2
section
variable {wr : Nat → Bool} {m : Mem} {nx a n : Nat} {A : List Int} {W R : Int}
set_option maxHeartbeats 2000000 in
theorem nextROk (D : Rdm wr m nx) (F : RefAt m nx a n A W R) (hW : 1 ≤ W ∧ W ≤ 64) (hR : 1 ≤ R ∧ R ≤ 64) (x : Int) (hx : -9223372036854775808 ≤ x ∧ x < 9223372036854775808) :
    CallG false Try.prog 88 [.ptr a 0, .int .i64 x] wr m nx (Kr (.tup [.int .i64 (nextZ A W R x).1, .int .i64 (nextZ A W R x).2]) m nx) := by
  refine fn_okG Try.func88 rfl (by show 2 ≤ _; decide) ?_
  have o := F.o
  have q := F.q
  have sm := F.sm
  have f1 : decide (nx ≤ a) = false := decide_eq_false (by have := F.an; omega)
  have DW := D.drawn []
  have w1 : IntKind.i64.wrap (W + 1) = W + 1 := by rw [wrap_i64] <;> omega
  have w2 : IntKind.i64.wrap (W + R) = W + R := by rw [wrap_i64] <;> omega
  have w3 : IntKind.i64.wrap (W + R + 1) = W + R + 1 := by rw [wrap_i64] <;> omega
  have c3 : A.count 3 ≤ A.length := List.count_le_length
  rcases Int.lt_or_le x 0 with h1 | h1
  · have g1 : decide (x < 0) = true := decide_eq_true h1
    simp (config := { maxSteps := 1000000, implicitDefEqProofs := false }) only [-List.reduceReplicate, Nat.reduceBEq, renA, renL, renM, renO, evx, evs, evp, Eng.look, cst, cst1, putd, dstOk, params, loadx, partx, loI, hiI, bltx, mmI, boxx, srcx, calx, nilx, upd, del, resv, fillA, setMany, Nat.reduceLT, Nat.reduceLeDiff, Nat.reduceEqDiff, Nat.reduceAdd, Nat.reduceMul, Nat.reduceSub, reduceIte, reduceCtorEq, if_true, if_false, ite_true, ite_false, eq_self, forall_const, implies_true, Int.reduceLT, Int.reduceLE, Int.reduceToNat, Int.reduceAdd, Int.reduceSub, Int.reduceNeg, ne_eq, Int.reduceEq, Int.reduceNe, Int.reduceBEq, Int.reduceBNe, beq_self_eq_true, bne_self_eq_false, BitVec.reduceBEq, BitVec.reduceBNe, BitVec.reduceOfInt, BitVec.reduceSetWidth, wrD, engS0, engS1, engS2, engS3, engS4, engS5, engS6, engS7, engS8, engS9, engU0, engT0, engT1, engT2, Fx.t1, Fx.t2, Fx.t3, Fx.t4, Fx.t91, Fx.t96, Fx.t97, Fx.t98, Fx.en62, Fx.en64, Fx.en98, Try.results88, Try.ntmps88, g1]
    rw [nextZ, if_pos (.inl h1)]
    exact D.fin _
  have g1 : decide (x < 0) = false := decide_eq_false (by omega)
  rcases Int.lt_or_le (W + 1) x with h2 | h2
  · have g2 : decide (x > W + 1) = true := decide_eq_true h2
    simp (config := { maxSteps := 1000000, implicitDefEqProofs := false }) only [-List.reduceReplicate, Nat.reduceBEq, renA, renL, renM, renO, evx, evs, evp, Eng.look, cst, cst1, putd, dstOk, params, loadx, partx, loI, hiI, bltx, mmI, boxx, srcx, calx, nilx, upd, del, resv, fillA, setMany, Nat.reduceLT, Nat.reduceLeDiff, Nat.reduceEqDiff, Nat.reduceAdd, Nat.reduceMul, Nat.reduceSub, reduceIte, reduceCtorEq, if_true, if_false, ite_true, ite_false, eq_self, forall_const, implies_true, Int.reduceLT, Int.reduceLE, Int.reduceToNat, Int.reduceAdd, Int.reduceSub, Int.reduceNeg, ne_eq, Int.reduceEq, Int.reduceNe, Int.reduceBEq, Int.reduceBNe, beq_self_eq_true, bne_self_eq_false, BitVec.reduceBEq, BitVec.reduceBNe, BitVec.reduceOfInt, BitVec.reduceSetWidth, wrD, engS0, engS1, engS2, engS3, engS4, engS5, engS6, engS7, engS8, engS9, engU0, engT0, engT1, engT2, Fx.t1, Fx.t2, Fx.t3, Fx.t4, Fx.t91, Fx.t96, Fx.t97, Fx.t98, Fx.en62, Fx.en64, Fx.en98, Try.results88, Try.ntmps88, g1, o, w1, g2]
    rw [nextZ, if_pos (.inr h2)]
    exact D.fin _
  have g2 : decide (x > W + 1) = false := decide_eq_false (by omega)
  rw [nextZ, if_neg (by omega)]
  by_cases h3 : x = 0
  · have g3 : (x == 0) = true := by rw [h3]; rfl
    rw [if_pos h3]
    simp (config := { maxSteps := 1000000, implicitDefEqProofs := false }) only [-List.reduceReplicate, Nat.reduceBEq, renA, renL, renM, renO, evx, evs, evp, Eng.look, cst, cst1, putd, dstOk, params, loadx, partx, loI, hiI, bltx, mmI, boxx, srcx, calx, nilx, upd, del, resv, fillA, setMany, Nat.reduceLT, Nat.reduceLeDiff, Nat.reduceEqDiff, Nat.reduceAdd, Nat.reduceMul, Nat.reduceSub, reduceIte, reduceCtorEq, if_true, if_false, ite_true, ite_false, eq_self, forall_const, implies_true, Int.reduceLT, Int.reduceLE, Int.reduceToNat, Int.reduceAdd, Int.reduceSub, Int.reduceNeg, ne_eq, Int.reduceEq, Int.reduceNe, Int.reduceBEq, Int.reduceBNe, beq_self_eq_true, bne_self_eq_false, BitVec.reduceBEq, BitVec.reduceBNe, BitVec.reduceOfInt, BitVec.reduceSetWidth, wrD, engS0, engS1, engS2, engS3, engS4, engS5, engS6, engS7, engS8, engS9, engU0, engT0, engT1, engT2, Fx.t1, Fx.t2, Fx.t3, Fx.t4, Fx.t91, Fx.t96, Fx.t97, Fx.t98, Fx.en62, Fx.en64, Fx.en98, Try.results88, Try.ntmps88, g1, o, w1, g2, g3]
    refine ⟨Fx.mixed, .inl ⟨[(0, false), (2, false), (3, false), (4, false), (5, false), (1, true), (6, false), (7, false), (8, false), (10, false), (11, false), (12, false), (13, false), (14, false), (15, false), (16, false), (17, false), (18, false), (19, false), (9, true), (20, false), (21, false)], [], by kernel_rfl, (fun n hn => by cases hn), ?_⟩⟩
    simp (config := { maxSteps := 1000000, implicitDefEqProofs := false }) only [-List.reduceReplicate, Nat.reduceBEq, renA, renL, renM, renO, evx, evs, evp, Eng.look, cst, cst1, putd, dstOk, params, loadx, partx, loI, hiI, bltx, mmI, boxx, srcx, calx, nilx, upd, del, resv, fillA, setMany, Nat.reduceLT, Nat.reduceLeDiff, Nat.reduceEqDiff, Nat.reduceAdd, Nat.reduceMul, Nat.reduceSub, reduceIte, reduceCtorEq, if_true, if_false, ite_true, ite_false, eq_self, forall_const, implies_true, Int.reduceLT, Int.reduceLE, Int.reduceToNat, Int.reduceAdd, Int.reduceSub, Int.reduceNeg, ne_eq, Int.reduceEq, Int.reduceNe, Int.reduceBEq, Int.reduceBNe, beq_self_eq_true, bne_self_eq_false, BitVec.reduceBEq, BitVec.reduceBNe, BitVec.reduceOfInt, BitVec.reduceSetWidth, wrD, engS0, engS1, engS2, engS3, engS4, engS5, engS6, engS7, engS8, engS9, engU0, engT0, engT1, engT2, Fx.t1, Fx.t2, Fx.t3, Fx.t4, Fx.t91, Fx.t96, Fx.t97, Fx.t98, Fx.en62, Fx.en64, Fx.en98, o, f1]
    refine (manyOk DW F 1).weak ?_
    rintro v m3 nx3 ⟨rfl, rfl, rfl⟩
    rcases Int.lt_or_le ((A.count 1 : Nat) : Int) R with k | k
    · have k1 : decide (((A.count 1 : Nat) : Int) ≥ R) = false := decide_eq_false (by omega)
      simp (config := { maxSteps := 1000000, implicitDefEqProofs := false }) only [-List.reduceReplicate, Nat.reduceBEq, renA, renL, renM, renO, evx, evs, evp, Eng.look, cst, cst1, putd, dstOk, params, loadx, partx, loI, hiI, bltx, mmI, boxx, srcx, calx, nilx, upd, del, resv, fillA, setMany, Nat.reduceLT, Nat.reduceLeDiff, Nat.reduceEqDiff, Nat.reduceAdd, Nat.reduceMul, Nat.reduceSub, reduceIte, reduceCtorEq, if_true, if_false, ite_true, ite_false, eq_self, forall_const, implies_true, Int.reduceLT, Int.reduceLE, Int.reduceToNat, Int.reduceAdd, Int.reduceSub, Int.reduceNeg, ne_eq, Int.reduceEq, Int.reduceNe, Int.reduceBEq, Int.reduceBNe, beq_self_eq_true, bne_self_eq_false, BitVec.reduceBEq, BitVec.reduceBNe, BitVec.reduceOfInt, BitVec.reduceSetWidth, wrD, engS0, engS1, engS2, engS3, engS4, engS5, engS6, engS7, engS8, engS9, engU0, engT0, engT1, engT2, Fx.t1, Fx.t2, Fx.t3, Fx.t4, Fx.t91, Fx.t96, Fx.t97, Fx.t98, Fx.en62, Fx.en64, Fx.en98, o, f1, k1, w2, w3]
      refine (aliveROk DW F).weak ?_
      rintro v m3 nx3 ⟨rfl, rfl, rfl⟩
      rcases Int.lt_or_le (alZ A) (W + R + 1) with k' | k'
      · have k2 : decide (alZ A ≥ W + R + 1) = false := decide_eq_false (by omega)
        simp (config := { maxSteps := 1000000, implicitDefEqProofs := false }) only [-List.reduceReplicate, Nat.reduceBEq, renA, renL, renM, renO, evx, evs, evp, Eng.look, cst, cst1, putd, dstOk, params, loadx, partx, loI, hiI, bltx, mmI, boxx, srcx, calx, nilx, upd, del, resv, fillA, setMany, Nat.reduceLT, Nat.reduceLeDiff, Nat.reduceEqDiff, Nat.reduceAdd, Nat.reduceMul, Nat.reduceSub, reduceIte, reduceCtorEq, if_true, if_false, ite_true, ite_false, eq_self, forall_const, implies_true, Int.reduceLT, Int.reduceLE, Int.reduceToNat, Int.reduceAdd, Int.reduceSub, Int.reduceNeg, ne_eq, Int.reduceEq, Int.reduceNe, Int.reduceBEq, Int.reduceBNe, beq_self_eq_true, bne_self_eq_false, BitVec.reduceBEq, BitVec.reduceBNe, BitVec.reduceOfInt, BitVec.reduceSetWidth, wrD, engS0, engS1, engS2, engS3, engS4, engS5, engS6, engS7, engS8, engS9, engU0, engT0, engT1, engT2, Fx.t1, Fx.t2, Fx.t3, Fx.t4, Fx.t91, Fx.t96, Fx.t97, Fx.t98, Fx.en62, Fx.en64, Fx.en98, k2]
        refine (firstOk D F 0).weak ?_
        rintro v m3 nx3 ⟨rfl, rfl, rfl⟩
        simp (config := { maxSteps := 1000000, implicitDefEqProofs := false }) only [-List.reduceReplicate, Nat.reduceBEq, renA, renL, renM, renO, evx, evs, evp, Eng.look, cst, cst1, putd, dstOk, params, loadx, partx, loI, hiI, bltx, mmI, boxx, srcx, calx, nilx, upd, del, resv, fillA, setMany, Nat.reduceLT, Nat.reduceLeDiff, Nat.reduceEqDiff, Nat.reduceAdd, Nat.reduceMul, Nat.reduceSub, reduceIte, reduceCtorEq, if_true, if_false, ite_true, ite_false, eq_self, forall_const, implies_true, Int.reduceLT, Int.reduceLE, Int.reduceToNat, Int.reduceAdd, Int.reduceSub, Int.reduceNeg, ne_eq, Int.reduceEq, Int.reduceNe, Int.reduceBEq, Int.reduceBNe, beq_self_eq_true, bne_self_eq_false, BitVec.reduceBEq, BitVec.reduceBNe, BitVec.reduceOfInt, BitVec.reduceSetWidth, wrD, engS0, engS1, engS2, engS3, engS4, engS5, engS6, engS7, engS8, engS9, engU0, engT0, engT1, engT2, Fx.t1, Fx.t2, Fx.t3, Fx.t4, Fx.t91, Fx.t96, Fx.t97, Fx.t98, Fx.en62, Fx.en64, Fx.en98]
        rw [if_neg (by omega)]
        exact D.fin _
      · have k2 : decide (alZ A ≥ W + R + 1) = true := decide_eq_true k'
        simp (config := { maxSteps := 1000000, implicitDefEqProofs := false }) only [-List.reduceReplicate, Nat.reduceBEq, renA, renL, renM, renO, evx, evs, evp, Eng.look, cst, cst1, putd, dstOk, params, loadx, partx, loI, hiI, bltx, mmI, boxx, srcx, calx, nilx, upd, del, resv, fillA, setMany, Nat.reduceLT, Nat.reduceLeDiff, Nat.reduceEqDiff, Nat.reduceAdd, Nat.reduceMul, Nat.reduceSub, reduceIte, reduceCtorEq, if_true, if_false, ite_true, ite_false, eq_self, forall_const, implies_true, Int.reduceLT, Int.reduceLE, Int.reduceToNat, Int.reduceAdd, Int.reduceSub, Int.reduceNeg, ne_eq, Int.reduceEq, Int.reduceNe, Int.reduceBEq, Int.reduceBNe, beq_self_eq_true, bne_self_eq_false, BitVec.reduceBEq, BitVec.reduceBNe, BitVec.reduceOfInt, BitVec.reduceSetWidth, wrD, engS0, engS1, engS2, engS3, engS4, engS5, engS6, engS7, engS8, engS9, engU0, engT0, engT1, engT2, Fx.t1, Fx.t2, Fx.t3, Fx.t4, Fx.t91, Fx.t96, Fx.t97, Fx.t98, Fx.en62, Fx.en64, Fx.en98, k2]
        rw [if_pos (.inr k')]
        exact D.fin _
    · have k1 : decide (((A.count 1 : Nat) : Int) ≥ R) = true := decide_eq_true k
      simp (config := { maxSteps := 1000000, implicitDefEqProofs := false }) only [-List.reduceReplicate, Nat.reduceBEq, renA, renL, renM, renO, evx, evs, evp, Eng.look, cst, cst1, putd, dstOk, params, loadx, partx, loI, hiI, bltx, mmI, boxx, srcx, calx, nilx, upd, del, resv, fillA, setMany, Nat.reduceLT, Nat.reduceLeDiff, Nat.reduceEqDiff, Nat.reduceAdd, Nat.reduceMul, Nat.reduceSub, reduceIte, reduceCtorEq, if_true, if_false, ite_true, ite_false, eq_self, forall_const, implies_true, Int.reduceLT, Int.reduceLE, Int.reduceToNat, Int.reduceAdd, Int.reduceSub, Int.reduceNeg, ne_eq, Int.reduceEq, Int.reduceNe, Int.reduceBEq, Int.reduceBNe, beq_self_eq_true, bne_self_eq_false, BitVec.reduceBEq, BitVec.reduceBNe, BitVec.reduceOfInt, BitVec.reduceSetWidth, wrD, engS0, engS1, engS2, engS3, engS4, engS5, engS6, engS7, engS8, engS9, engU0, engT0, engT1, engT2, Fx.t1, Fx.t2, Fx.t3, Fx.t4, Fx.t91, Fx.t96, Fx.t97, Fx.t98, Fx.en62, Fx.en64, Fx.en98, o, f1, k1]
      rw [if_pos (.inl k)]
      exact D.fin _
  have g3 : (x == 0) = false := by simpa using h3
  rw [if_neg h3]
  by_cases h4 : x = W + 1
  · have g4 : (x == W + 1) = true := by rw [h4]; exact beq_self_eq_true _
    rw [if_pos h4]
    simp (config := { maxSteps := 1000000, implicitDefEqProofs := false }) only [-List.reduceReplicate, Nat.reduceBEq, renA, renL, renM, renO, evx, evs, evp, Eng.look, cst, cst1, putd, dstOk, params, loadx, partx, loI, hiI, bltx, mmI, boxx, srcx, calx, nilx, upd, del, resv, fillA, setMany, Nat.reduceLT, Nat.reduceLeDiff, Nat.reduceEqDiff, Nat.reduceAdd, Nat.reduceMul, Nat.reduceSub, reduceIte, reduceCtorEq, if_true, if_false, ite_true, ite_false, eq_self, forall_const, implies_true, Int.reduceLT, Int.reduceLE, Int.reduceToNat, Int.reduceAdd, Int.reduceSub, Int.reduceNeg, ne_eq, Int.reduceEq, Int.reduceNe, Int.reduceBEq, Int.reduceBNe, beq_self_eq_true, bne_self_eq_false, BitVec.reduceBEq, BitVec.reduceBNe, BitVec.reduceOfInt, BitVec.reduceSetWidth, wrD, engS0, engS1, engS2, engS3, engS4, engS5, engS6, engS7, engS8, engS9, engU0, engT0, engT1, engT2, Fx.t1, Fx.t2, Fx.t3, Fx.t4, Fx.t91, Fx.t96, Fx.t97, Fx.t98, Fx.en62, Fx.en64, Fx.en98, Try.results88, Try.ntmps88, g1, o, w1, g2, g3, g4]
    refine (CallG.any (manyOk D F 3)).weak ?_
    rintro v m3 nx3 ⟨rfl, rfl, rfl⟩
    rcases Nat.lt_or_ge (A.count 3) A.length with k | k
    · have k1 : decide (((A.count 3 : Nat) : Int) ≥ (A.length : Int)) = false := decide_eq_false (by omega)
      have hg := zs_get' A (A.count 3) k
      rw [if_neg (by omega)]
      by_cases h5 : A.getD (A.count 3) 0 = 2
      · have g5 : (A.getD (A.count 3) 0 != 2) = false := by rw [h5]; rfl
        simp (config := { maxSteps := 1000000, implicitDefEqProofs := false }) only [-List.reduceReplicate, Nat.reduceBEq, renA, renL, renM, renO, evx, evs, evp, Eng.look, cst, cst1, putd, dstOk, params, loadx, partx, loI, hiI, bltx, mmI, boxx, srcx, calx, nilx, upd, del, resv, fillA, setMany, Nat.reduceLT, Nat.reduceLeDiff, Nat.reduceEqDiff, Nat.reduceAdd, Nat.reduceMul, Nat.reduceSub, reduceIte, reduceCtorEq, if_true, if_false, ite_true, ite_false, eq_self, forall_const, implies_true, Int.reduceLT, Int.reduceLE, Int.reduceToNat, Int.reduceAdd, Int.reduceSub, Int.reduceNeg, ne_eq, Int.reduceEq, Int.reduceNe, Int.reduceBEq, Int.reduceBNe, beq_self_eq_true, bne_self_eq_false, BitVec.reduceBEq, BitVec.reduceBNe, BitVec.reduceOfInt, BitVec.reduceSetWidth, wrD, engS0, engS1, engS2, engS3, engS4, engS5, engS6, engS7, engS8, engS9, engU0, engT0, engT1, engT2, Fx.t1, Fx.t2, Fx.t3, Fx.t4, Fx.t91, Fx.t96, Fx.t97, Fx.t98, Fx.en62, Fx.en64, Fx.en98, o, q, k1, hg, g5, zs_len]
        refine ⟨by omega, by omega, ?_⟩
        rw [if_pos h5]
        exact D.fin _
      · have g5 : (A.getD (A.count 3) 0 != 2) = true := by simpa using h5
        simp (config := { maxSteps := 1000000, implicitDefEqProofs := false }) only [-List.reduceReplicate, Nat.reduceBEq, renA, renL, renM, renO, evx, evs, evp, Eng.look, cst, cst1, putd, dstOk, params, loadx, partx, loI, hiI, bltx, mmI, boxx, srcx, calx, nilx, upd, del, resv, fillA, setMany, Nat.reduceLT, Nat.reduceLeDiff, Nat.reduceEqDiff, Nat.reduceAdd, Nat.reduceMul, Nat.reduceSub, reduceIte, reduceCtorEq, if_true, if_false, ite_true, ite_false, eq_self, forall_const, implies_true, Int.reduceLT, Int.reduceLE, Int.reduceToNat, Int.reduceAdd, Int.reduceSub, Int.reduceNeg, ne_eq, Int.reduceEq, Int.reduceNe, Int.reduceBEq, Int.reduceBNe, beq_self_eq_true, bne_self_eq_false, BitVec.reduceBEq, BitVec.reduceBNe, BitVec.reduceOfInt, BitVec.reduceSetWidth, wrD, engS0, engS1, engS2, engS3, engS4, engS5, engS6, engS7, engS8, engS9, engU0, engT0, engT1, engT2, Fx.t1, Fx.t2, Fx.t3, Fx.t4, Fx.t91, Fx.t96, Fx.t97, Fx.t98, Fx.en62, Fx.en64, Fx.en98, o, q, k1, hg, g5, zs_len]
        refine ⟨by omega, by omega, ?_⟩
        rw [if_neg h5]
        exact D.fin _
    · have k1 : decide (((A.count 3 : Nat) : Int) ≥ (A.length : Int)) = true := decide_eq_true (by omega)
      simp (config := { maxSteps := 1000000, implicitDefEqProofs := false }) only [-List.reduceReplicate, Nat.reduceBEq, renA, renL, renM, renO, evx, evs, evp, Eng.look, cst, cst1, putd, dstOk, params, loadx, partx, loI, hiI, bltx, mmI, boxx, srcx, calx, nilx, upd, del, resv, fillA, setMany, Nat.reduceLT, Nat.reduceLeDiff, Nat.reduceEqDiff, Nat.reduceAdd, Nat.reduceMul, Nat.reduceSub, reduceIte, reduceCtorEq, if_true, if_false, ite_true, ite_false, eq_self, forall_const, implies_true, Int.reduceLT, Int.reduceLE, Int.reduceToNat, Int.reduceAdd, Int.reduceSub, Int.reduceNeg, ne_eq, Int.reduceEq, Int.reduceNe, Int.reduceBEq, Int.reduceBNe, beq_self_eq_true, bne_self_eq_false, BitVec.reduceBEq, BitVec.reduceBNe, BitVec.reduceOfInt, BitVec.reduceSetWidth, wrD, engS0, engS1, engS2, engS3, engS4, engS5, engS6, engS7, engS8, engS9, engU0, engT0, engT1, engT2, Fx.t1, Fx.t2, Fx.t3, Fx.t4, Fx.t91, Fx.t96, Fx.t97, Fx.t98, Fx.en62, Fx.en64, Fx.en98, o, k1]
      rw [if_pos k]
      exact D.fin _
  have g4 : (x == W + 1) = false := by simpa using h4
  rw [if_neg h4]
  have w4 : IntKind.i64.wrap (0 - x) = -x := by rw [wrap_i64] <;> omega
  simp (config := { maxSteps := 1000000, implicitDefEqProofs := false }) only [-List.reduceReplicate, Nat.reduceBEq, renA, renL, renM, renO, evx, evs, evp, Eng.look, cst, cst1, putd, dstOk, params, loadx, partx, loI, hiI, bltx, mmI, boxx, srcx, calx, nilx, upd, del, resv, fillA, setMany, Nat.reduceLT, Nat.reduceLeDiff, Nat.reduceEqDiff, Nat.reduceAdd, Nat.reduceMul, Nat.reduceSub, reduceIte, reduceCtorEq, if_true, if_false, ite_true, ite_false, eq_self, forall_const, implies_true, Int.reduceLT, Int.reduceLE, Int.reduceToNat, Int.reduceAdd, Int.reduceSub, Int.reduceNeg, ne_eq, Int.reduceEq, Int.reduceNe, Int.reduceBEq, Int.reduceBNe, beq_self_eq_true, bne_self_eq_false, BitVec.reduceBEq, BitVec.reduceBNe, BitVec.reduceOfInt, BitVec.reduceSetWidth, wrD, engS0, engS1, engS2, engS3, engS4, engS5, engS6, engS7, engS8, engS9, engU0, engT0, engT1, engT2, Fx.t1, Fx.t2, Fx.t3, Fx.t4, Fx.t91, Fx.t96, Fx.t97, Fx.t98, Fx.en62, Fx.en64, Fx.en98, Try.results88, Try.ntmps88, g1, o, w1, g2, g3, g4, w4]
  refine (CallG.any (manyOk D F (-x))).weak ?_
  rintro v m3 nx3 ⟨rfl, rfl, rfl⟩
  rcases Nat.eq_zero_or_pos (A.count (-x)) with k | k
  · have k1 : decide (((A.count (-x) : Nat) : Int) > 0) = false := decide_eq_false (by omega)
    simp (config := { maxSteps := 1000000, implicitDefEqProofs := false }) only [-List.reduceReplicate, Nat.reduceBEq, renA, renL, renM, renO, evx, evs, evp, Eng.look, cst, cst1, putd, dstOk, params, loadx, partx, loI, hiI, bltx, mmI, boxx, srcx, calx, nilx, upd, del, resv, fillA, setMany, Nat.reduceLT, Nat.reduceLeDiff, Nat.reduceEqDiff, Nat.reduceAdd, Nat.reduceMul, Nat.reduceSub, reduceIte, reduceCtorEq, if_true, if_false, ite_true, ite_false, eq_self, forall_const, implies_true, Int.reduceLT, Int.reduceLE, Int.reduceToNat, Int.reduceAdd, Int.reduceSub, Int.reduceNeg, ne_eq, Int.reduceEq, Int.reduceNe, Int.reduceBEq, Int.reduceBNe, beq_self_eq_true, bne_self_eq_false, BitVec.reduceBEq, BitVec.reduceBNe, BitVec.reduceOfInt, BitVec.reduceSetWidth, wrD, engS0, engS1, engS2, engS3, engS4, engS5, engS6, engS7, engS8, engS9, engU0, engT0, engT1, engT2, Fx.t1, Fx.t2, Fx.t3, Fx.t4, Fx.t91, Fx.t96, Fx.t97, Fx.t98, Fx.en62, Fx.en64, Fx.en98, k1, w4]
    refine (firstOk D F 1).weak ?_
    rintro v m3 nx3 ⟨rfl, rfl, rfl⟩
    simp (config := { maxSteps := 1000000, implicitDefEqProofs := false }) only [-List.reduceReplicate, Nat.reduceBEq, renA, renL, renM, renO, evx, evs, evp, Eng.look, cst, cst1, putd, dstOk, params, loadx, partx, loI, hiI, bltx, mmI, boxx, srcx, calx, nilx, upd, del, resv, fillA, setMany, Nat.reduceLT, Nat.reduceLeDiff, Nat.reduceEqDiff, Nat.reduceAdd, Nat.reduceMul, Nat.reduceSub, reduceIte, reduceCtorEq, if_true, if_false, ite_true, ite_false, eq_self, forall_const, implies_true, Int.reduceLT, Int.reduceLE, Int.reduceToNat, Int.reduceAdd, Int.reduceSub, Int.reduceNeg, ne_eq, Int.reduceEq, Int.reduceNe, Int.reduceBEq, Int.reduceBNe, beq_self_eq_true, bne_self_eq_false, BitVec.reduceBEq, BitVec.reduceBNe, BitVec.reduceOfInt, BitVec.reduceSetWidth, wrD, engS0, engS1, engS2, engS3, engS4, engS5, engS6, engS7, engS8, engS9, engU0, engT0, engT1, engT2, Fx.t1, Fx.t2, Fx.t3, Fx.t4, Fx.t91, Fx.t96, Fx.t97, Fx.t98, Fx.en62, Fx.en64, Fx.en98, w4]
    rw [if_neg (by omega)]
    exact D.fin _
  · have k1 : decide (((A.count (-x) : Nat) : Int) > 0) = true := decide_eq_true (by omega)
    simp (config := { maxSteps := 1000000, implicitDefEqProofs := false }) only [-List.reduceReplicate, Nat.reduceBEq, renA, renL, renM, renO, evx, evs, evp, Eng.look, cst, cst1, putd, dstOk, params, loadx, partx, loI, hiI, bltx, mmI, boxx, srcx, calx, nilx, upd, del, resv, fillA, setMany, Nat.reduceLT, Nat.reduceLeDiff, Nat.reduceEqDiff, Nat.reduceAdd, Nat.reduceMul, Nat.reduceSub, reduceIte, reduceCtorEq, if_true, if_false, ite_true, ite_false, eq_self, forall_const, implies_true, Int.reduceLT, Int.reduceLE, Int.reduceToNat, Int.reduceAdd, Int.reduceSub, Int.reduceNeg, ne_eq, Int.reduceEq, Int.reduceNe, Int.reduceBEq, Int.reduceBNe, beq_self_eq_true, bne_self_eq_false, BitVec.reduceBEq, BitVec.reduceBNe, BitVec.reduceOfInt, BitVec.reduceSetWidth, wrD, engS0, engS1, engS2, engS3, engS4, engS5, engS6, engS7, engS8, engS9, engU0, engT0, engT1, engT2, Fx.t1, Fx.t2, Fx.t3, Fx.t4, Fx.t91, Fx.t96, Fx.t97, Fx.t98, Fx.en62, Fx.en64, Fx.en98, k1, w4]
    refine (firstOk D F (-x)).weak ?_
    rintro v m3 nx3 ⟨rfl, rfl, rfl⟩
    simp (config := { maxSteps := 1000000, implicitDefEqProofs := false }) only [-List.reduceReplicate, Nat.reduceBEq, renA, renL, renM, renO, evx, evs, evp, Eng.look, cst, cst1, putd, dstOk, params, loadx, partx, loI, hiI, bltx, mmI, boxx, srcx, calx, nilx, upd, del, resv, fillA, setMany, Nat.reduceLT, Nat.reduceLeDiff, Nat.reduceEqDiff, Nat.reduceAdd, Nat.reduceMul, Nat.reduceSub, reduceIte, reduceCtorEq, if_true, if_false, ite_true, ite_false, eq_self, forall_const, implies_true, Int.reduceLT, Int.reduceLE, Int.reduceToNat, Int.reduceAdd, Int.reduceSub, Int.reduceNeg, ne_eq, Int.reduceEq, Int.reduceNe, Int.reduceBEq, Int.reduceBNe, beq_self_eq_true, bne_self_eq_false, BitVec.reduceBEq, BitVec.reduceBNe, BitVec.reduceOfInt, BitVec.reduceSetWidth, wrD, engS0, engS1, engS2, engS3, engS4, engS5, engS6, engS7, engS8, engS9, engU0, engT0, engT1, engT2, Fx.t1, Fx.t2, Fx.t3, Fx.t4, Fx.t91, Fx.t96, Fx.t97, Fx.t98, Fx.en62, Fx.en64, Fx.en98]
    rw [if_pos k]
    exact D.fin _
def StepRK (A : List Int) (W R x : Int) (m : Mem) (nx n : Nat) : Kv := fun v m' nx' => v = .int .i64 (nextZ A W R x).1 ∧ m' = Eng.upd m n (.cells (zs (stepZ A W R x)) 3) ∧ nx' = nx
theorem zs_set (A : List Int) (k : Nat) (v : Int) : (zs A).set k (.int .i64 v) = zs (A.set k v) := by simp [zs, List.map_set]
theorem stepROk (D : Rdm wr m nx) (F : RefAt m nx a n A W R) (hW : 1 ≤ W ∧ W ≤ 64) (hR : 1 ≤ R ∧ R ≤ 64) (hw : wr n = true) (x : Int) (hx : -9223372036854775808 ≤ x ∧ x < 9223372036854775808) :
    CallG false Try.prog 60 [.ptr a 0, .int .i64 x] wr m nx (StepRK A W R x m nx n) := by
  refine fn_okG Try.func60 rfl (by show 2 ≤ _; decide) ?_
  have o := F.o
  have q := F.q
  have hl := nextZ_lt A W R x
  simp (config := { maxSteps := 1000000, implicitDefEqProofs := false }) only [-List.reduceReplicate, Nat.reduceBEq, renA, renL, renM, renO, evx, evs, evp, Eng.look, cst, cst1, putd, dstOk, params, loadx, partx, loI, hiI, bltx, mmI, boxx, srcx, calx, nilx, upd, del, resv, fillA, setMany, Nat.reduceLT, Nat.reduceLeDiff, Nat.reduceEqDiff, Nat.reduceAdd, Nat.reduceMul, Nat.reduceSub, reduceIte, reduceCtorEq, if_true, if_false, ite_true, ite_false, eq_self, forall_const, implies_true, Int.reduceLT, Int.reduceLE, Int.reduceToNat, Int.reduceAdd, Int.reduceSub, Int.reduceNeg, ne_eq, Int.reduceEq, Int.reduceNe, Int.reduceBEq, Int.reduceBNe, beq_self_eq_true, bne_self_eq_false, BitVec.reduceBEq, BitVec.reduceBNe, BitVec.reduceOfInt, BitVec.reduceSetWidth, wrD, engS0, engS1, engS2, engS3, engS4, engS5, engS6, engS7, engS8, engS9, engU0, engT0, engT1, engT2, Fx.t1, Fx.t3, Fx.t4, Fx.t91, Fx.t96, Fx.t97, Fx.t98, Fx.en88, Try.results60, Try.ntmps60]
  refine (CallG.any (nextROk D F hW hR x hx)).weak ?_
  rintro v m3 nx3 ⟨rfl, rfl, rfl⟩
  rcases Int.lt_or_le (nextZ A W R x).1 0 with k | k
  · have k1 : decide ((nextZ A W R x).1 ≥ 0) = false := decide_eq_false (by omega)
    simp (config := { maxSteps := 1000000, implicitDefEqProofs := false }) only [-List.reduceReplicate, Nat.reduceBEq, renA, renL, renM, renO, evx, evs, evp, Eng.look, cst, cst1, putd, dstOk, params, loadx, partx, loI, hiI, bltx, mmI, boxx, srcx, calx, nilx, upd, del, resv, fillA, setMany, Nat.reduceLT, Nat.reduceLeDiff, Nat.reduceEqDiff, Nat.reduceAdd, Nat.reduceMul, Nat.reduceSub, reduceIte, reduceCtorEq, if_true, if_false, ite_true, ite_false, eq_self, forall_const, implies_true, Int.reduceLT, Int.reduceLE, Int.reduceToNat, Int.reduceAdd, Int.reduceSub, Int.reduceNeg, ne_eq, Int.reduceEq, Int.reduceNe, Int.reduceBEq, Int.reduceBNe, beq_self_eq_true, bne_self_eq_false, BitVec.reduceBEq, BitVec.reduceBNe, BitVec.reduceOfInt, BitVec.reduceSetWidth, wrD, engS0, engS1, engS2, engS3, engS4, engS5, engS6, engS7, engS8, engS9, engU0, engT0, engT1, engT2, Fx.t1, Fx.t3, Fx.t4, Fx.t91, Fx.t96, Fx.t97, Fx.t98, Fx.en88, k1]
    refine Fin.keepW (m0 := m3) (Nat.le_refl _) (memSame_slf D.nd) D.nd D.kp ⟨rfl, ?_, rfl⟩
    rw [stepZ, if_neg (by omega), upd_self q]
  · have k1 : decide ((nextZ A W R x).1 ≥ 0) = true := decide_eq_true k
    simp (config := { maxSteps := 1000000, implicitDefEqProofs := false }) only [-List.reduceReplicate, Nat.reduceBEq, renA, renL, renM, renO, evx, evs, evp, Eng.look, cst, cst1, putd, dstOk, params, loadx, partx, loI, hiI, bltx, mmI, boxx, srcx, calx, nilx, upd, del, resv, fillA, setMany, Nat.reduceLT, Nat.reduceLeDiff, Nat.reduceEqDiff, Nat.reduceAdd, Nat.reduceMul, Nat.reduceSub, reduceIte, reduceCtorEq, if_true, if_false, ite_true, ite_false, eq_self, forall_const, implies_true, Int.reduceLT, Int.reduceLE, Int.reduceToNat, Int.reduceAdd, Int.reduceSub, Int.reduceNeg, ne_eq, Int.reduceEq, Int.reduceNe, Int.reduceBEq, Int.reduceBNe, beq_self_eq_true, bne_self_eq_false, BitVec.reduceBEq, BitVec.reduceBNe, BitVec.reduceOfInt, BitVec.reduceSetWidth, wrD, engS0, engS1, engS2, engS3, engS4, engS5, engS6, engS7, engS8, engS9, engU0, engT0, engT1, engT2, Fx.t1, Fx.t3, Fx.t4, Fx.t91, Fx.t96, Fx.t97, Fx.t98, Fx.en88, k1, o, q, hw, zs_len, zs_set]
    refine ⟨by omega, by omega, ?_⟩
    have DU := D.upd n (.cells (zs (stepZ A W R x)) 3)
    refine Fin.keepW (m0 := Eng.upd m3 n (.cells (zs (stepZ A W R x)) 3)) (Nat.le_refl _) ?_ DU.nd DU.kp ⟨rfl, rfl, rfl⟩
    rw [stepZ, if_pos k]
    have := memSame_slf (D.upd n (.cells (zs (A.set (nextZ A W R x).1.toNat (nextZ A W R x).2)) 3)).nd
    exact this
end
end Go.Proofs.Ytmnbbpckglppjaa
