/- Turns: a new pool. -/
import Derived.Test.YtmnbbpckglppjaaEng19
import Derived.Test.YtmnbbpckglppjaaEng26
import Derived.Test.YtmnbbpckglppjaaPoi
set_option linter.unusedVariables false
set_option linter.unusedSimpArgs false
set_option maxRecDepth 100000
namespace Go.Proofs.Ytmnbbpckglppjaa
open Go Go.Eng

theorem small64 : ∀ k : Fin 65, (BitVec.ofNat 64 k.val &&& 4294967295#64 = BitVec.ofNat 64 k.val) ∧ (BitVec.ofNat 64 k.val >>> 32 = 0#64) ∧ (BitVec.ofNat 64 k.val).toNat = k.val := by decide
theorem mul64Ok (y : BitVec 64) (h1 : y &&& 4294967295#64 = y) (h2 : y >>> 32 = 0#64) : CallG false Try.prog 100 [.int .u64 ((1#64).toNat : Int), .int .u64 (y.toNat : Int)] (fun _ => true) [] 0 fun v m nx => v = .tup [.int .u64 ((0#64).toNat : Int), .int .u64 (y.toNat : Int)] ∧ m = [] ∧ nx = 0 := by
  refine fn_okG Try.func100 rfl (by show 2 ≤ _; decide) ?_
  have k1 : 1#64 >>> 32 = 0#64 := by decide
  have k2 : 1#64 &&& 4294967295#64 = 1#64 := by decide
  have k3 : 0#64 >>> 32 = 0#64 := by decide
  have k4 : 0#64 &&& 4294967295#64 = 0#64 := by decide
  simp (config := { maxSteps := 1000000, implicitDefEqProofs := false }) only [-List.reduceReplicate, Nat.reduceBEq, renA, renL, renM, renO, evx, evs, evp, Eng.look, cst, cst1, putd, dstOk, params, loadx, partx, loI, hiI, bltx, mmI, boxx, srcx, calx, nilx, upd, del, resv, fillA, setMany, Nat.reduceLT, Nat.reduceLeDiff, Nat.reduceEqDiff, Nat.reduceAdd, Nat.reduceMul, Nat.reduceSub, reduceIte, reduceCtorEq, if_true, if_false, ite_true, ite_false, eq_self, forall_const, implies_true, Int.reduceLT, Int.reduceLE, Int.reduceToNat, Int.reduceAdd, Int.reduceSub, Int.reduceNeg, ne_eq, Int.reduceEq, Int.reduceNe, Int.reduceBEq, Int.reduceBNe, beq_self_eq_true, bne_self_eq_false, BitVec.reduceBEq, BitVec.reduceBNe, BitVec.reduceOfInt, BitVec.reduceSetWidth, wrD, engS0, engS1, engS2, engS3, engS4, engS5, engS6, engS7, engS8, engS9, engU0, engT0, engT1, engT2, Fx.t22, Try.results100, Try.ntmps100, h1, h2, BitVec.one_mul, BitVec.mul_one, BitVec.zero_mul, BitVec.mul_zero, BitVec.add_zero, BitVec.zero_add, k1, k2, k3, k4]
  exact Fin.anyv (fun _ => rfl)
theorem fairOk (jobs w room : Int) : CallG false Try.prog 55 [.int .i64 jobs, .int .i64 w, .int .i64 room] (fun _ => true) [] 0 fun v m nx => v = .bool (decide (jobs ≥ 0) && decide (jobs ≤ 10000) && decide (w ≥ 1) && decide (w ≤ 64) && decide (room ≥ 1) && decide (room ≤ 64)) ∧ m = [] ∧ nx = 0 := by
  refine fn_okG Try.func55 rfl (by show 3 ≤ _; decide) ?_
  cases h1 : decide (jobs ≥ 0) with
  | false =>
    simp (config := { maxSteps := 1000000, implicitDefEqProofs := false }) only [-List.reduceReplicate, Nat.reduceBEq, renA, renL, renM, renO, evx, evs, evp, Eng.look, cst, cst1, putd, dstOk, params, loadx, partx, loI, hiI, bltx, mmI, boxx, srcx, calx, nilx, upd, del, resv, fillA, setMany, Nat.reduceLT, Nat.reduceLeDiff, Nat.reduceEqDiff, Nat.reduceAdd, Nat.reduceMul, Nat.reduceSub, reduceIte, reduceCtorEq, if_true, if_false, ite_true, ite_false, eq_self, forall_const, implies_true, Int.reduceLT, Int.reduceLE, Int.reduceToNat, Int.reduceAdd, Int.reduceSub, Int.reduceNeg, ne_eq, Int.reduceEq, Int.reduceNe, Int.reduceBEq, Int.reduceBNe, beq_self_eq_true, bne_self_eq_false, BitVec.reduceBEq, BitVec.reduceBNe, BitVec.reduceOfInt, BitVec.reduceSetWidth, wrD, engS0, engS1, engS2, engS3, engS4, engS5, engS6, engS7, engS8, engS9, engU0, engT0, engT1, engT2, Fx.t3, Fx.t4, Try.results55, Try.ntmps55, h1]
    exact Fin.anyv (fun _ => rfl)
  | true =>
    cases h2 : decide (jobs ≤ 10000) with
    | false =>
      simp (config := { maxSteps := 1000000, implicitDefEqProofs := false }) only [-List.reduceReplicate, Nat.reduceBEq, renA, renL, renM, renO, evx, evs, evp, Eng.look, cst, cst1, putd, dstOk, params, loadx, partx, loI, hiI, bltx, mmI, boxx, srcx, calx, nilx, upd, del, resv, fillA, setMany, Nat.reduceLT, Nat.reduceLeDiff, Nat.reduceEqDiff, Nat.reduceAdd, Nat.reduceMul, Nat.reduceSub, reduceIte, reduceCtorEq, if_true, if_false, ite_true, ite_false, eq_self, forall_const, implies_true, Int.reduceLT, Int.reduceLE, Int.reduceToNat, Int.reduceAdd, Int.reduceSub, Int.reduceNeg, ne_eq, Int.reduceEq, Int.reduceNe, Int.reduceBEq, Int.reduceBNe, beq_self_eq_true, bne_self_eq_false, BitVec.reduceBEq, BitVec.reduceBNe, BitVec.reduceOfInt, BitVec.reduceSetWidth, wrD, engS0, engS1, engS2, engS3, engS4, engS5, engS6, engS7, engS8, engS9, engU0, engT0, engT1, engT2, Fx.t3, Fx.t4, Try.results55, Try.ntmps55, h1, h2]
      exact Fin.anyv (fun _ => rfl)
    | true =>
      cases h3 : decide (w ≥ 1) with
      | false =>
        simp (config := { maxSteps := 1000000, implicitDefEqProofs := false }) only [-List.reduceReplicate, Nat.reduceBEq, renA, renL, renM, renO, evx, evs, evp, Eng.look, cst, cst1, putd, dstOk, params, loadx, partx, loI, hiI, bltx, mmI, boxx, srcx, calx, nilx, upd, del, resv, fillA, setMany, Nat.reduceLT, Nat.reduceLeDiff, Nat.reduceEqDiff, Nat.reduceAdd, Nat.reduceMul, Nat.reduceSub, reduceIte, reduceCtorEq, if_true, if_false, ite_true, ite_false, eq_self, forall_const, implies_true, Int.reduceLT, Int.reduceLE, Int.reduceToNat, Int.reduceAdd, Int.reduceSub, Int.reduceNeg, ne_eq, Int.reduceEq, Int.reduceNe, Int.reduceBEq, Int.reduceBNe, beq_self_eq_true, bne_self_eq_false, BitVec.reduceBEq, BitVec.reduceBNe, BitVec.reduceOfInt, BitVec.reduceSetWidth, wrD, engS0, engS1, engS2, engS3, engS4, engS5, engS6, engS7, engS8, engS9, engU0, engT0, engT1, engT2, Fx.t3, Fx.t4, Try.results55, Try.ntmps55, h1, h2, h3]
        exact Fin.anyv (fun _ => rfl)
      | true =>
        cases h4 : decide (w ≤ 64) with
        | false =>
          simp (config := { maxSteps := 1000000, implicitDefEqProofs := false }) only [-List.reduceReplicate, Nat.reduceBEq, renA, renL, renM, renO, evx, evs, evp, Eng.look, cst, cst1, putd, dstOk, params, loadx, partx, loI, hiI, bltx, mmI, boxx, srcx, calx, nilx, upd, del, resv, fillA, setMany, Nat.reduceLT, Nat.reduceLeDiff, Nat.reduceEqDiff, Nat.reduceAdd, Nat.reduceMul, Nat.reduceSub, reduceIte, reduceCtorEq, if_true, if_false, ite_true, ite_false, eq_self, forall_const, implies_true, Int.reduceLT, Int.reduceLE, Int.reduceToNat, Int.reduceAdd, Int.reduceSub, Int.reduceNeg, ne_eq, Int.reduceEq, Int.reduceNe, Int.reduceBEq, Int.reduceBNe, beq_self_eq_true, bne_self_eq_false, BitVec.reduceBEq, BitVec.reduceBNe, BitVec.reduceOfInt, BitVec.reduceSetWidth, wrD, engS0, engS1, engS2, engS3, engS4, engS5, engS6, engS7, engS8, engS9, engU0, engT0, engT1, engT2, Fx.t3, Fx.t4, Try.results55, Try.ntmps55, h1, h2, h3, h4]
          exact Fin.anyv (fun _ => rfl)
        | true =>
          cases h5 : decide (room ≥ 1) with
          | false =>
            simp (config := { maxSteps := 1000000, implicitDefEqProofs := false }) only [-List.reduceReplicate, Nat.reduceBEq, renA, renL, renM, renO, evx, evs, evp, Eng.look, cst, cst1, putd, dstOk, params, loadx, partx, loI, hiI, bltx, mmI, boxx, srcx, calx, nilx, upd, del, resv, fillA, setMany, Nat.reduceLT, Nat.reduceLeDiff, Nat.reduceEqDiff, Nat.reduceAdd, Nat.reduceMul, Nat.reduceSub, reduceIte, reduceCtorEq, if_true, if_false, ite_true, ite_false, eq_self, forall_const, implies_true, Int.reduceLT, Int.reduceLE, Int.reduceToNat, Int.reduceAdd, Int.reduceSub, Int.reduceNeg, ne_eq, Int.reduceEq, Int.reduceNe, Int.reduceBEq, Int.reduceBNe, beq_self_eq_true, bne_self_eq_false, BitVec.reduceBEq, BitVec.reduceBNe, BitVec.reduceOfInt, BitVec.reduceSetWidth, wrD, engS0, engS1, engS2, engS3, engS4, engS5, engS6, engS7, engS8, engS9, engU0, engT0, engT1, engT2, Fx.t3, Fx.t4, Try.results55, Try.ntmps55, h1, h2, h3, h4, h5]
            exact Fin.anyv (fun _ => rfl)
          | true =>
            cases h6 : decide (room ≤ 64) with
            | false =>
              simp (config := { maxSteps := 1000000, implicitDefEqProofs := false }) only [-List.reduceReplicate, Nat.reduceBEq, renA, renL, renM, renO, evx, evs, evp, Eng.look, cst, cst1, putd, dstOk, params, loadx, partx, loI, hiI, bltx, mmI, boxx, srcx, calx, nilx, upd, del, resv, fillA, setMany, Nat.reduceLT, Nat.reduceLeDiff, Nat.reduceEqDiff, Nat.reduceAdd, Nat.reduceMul, Nat.reduceSub, reduceIte, reduceCtorEq, if_true, if_false, ite_true, ite_false, eq_self, forall_const, implies_true, Int.reduceLT, Int.reduceLE, Int.reduceToNat, Int.reduceAdd, Int.reduceSub, Int.reduceNeg, ne_eq, Int.reduceEq, Int.reduceNe, Int.reduceBEq, Int.reduceBNe, beq_self_eq_true, bne_self_eq_false, BitVec.reduceBEq, BitVec.reduceBNe, BitVec.reduceOfInt, BitVec.reduceSetWidth, wrD, engS0, engS1, engS2, engS3, engS4, engS5, engS6, engS7, engS8, engS9, engU0, engT0, engT1, engT2, Fx.t3, Fx.t4, Try.results55, Try.ntmps55, h1, h2, h3, h4, h5, h6]
              exact Fin.anyv (fun _ => rfl)
            | true =>
              simp (config := { maxSteps := 1000000, implicitDefEqProofs := false }) only [-List.reduceReplicate, Nat.reduceBEq, renA, renL, renM, renO, evx, evs, evp, Eng.look, cst, cst1, putd, dstOk, params, loadx, partx, loI, hiI, bltx, mmI, boxx, srcx, calx, nilx, upd, del, resv, fillA, setMany, Nat.reduceLT, Nat.reduceLeDiff, Nat.reduceEqDiff, Nat.reduceAdd, Nat.reduceMul, Nat.reduceSub, reduceIte, reduceCtorEq, if_true, if_false, ite_true, ite_false, eq_self, forall_const, implies_true, Int.reduceLT, Int.reduceLE, Int.reduceToNat, Int.reduceAdd, Int.reduceSub, Int.reduceNeg, ne_eq, Int.reduceEq, Int.reduceNe, Int.reduceBEq, Int.reduceBNe, beq_self_eq_true, bne_self_eq_false, BitVec.reduceBEq, BitVec.reduceBNe, BitVec.reduceOfInt, BitVec.reduceSetWidth, wrD, engS0, engS1, engS2, engS3, engS4, engS5, engS6, engS7, engS8, engS9, engU0, engT0, engT1, engT2, Fx.t3, Fx.t4, Try.results55, Try.ntmps55, h1, h2, h3, h4, h5, h6]
              exact Fin.anyv (fun _ => rfl)
theorem inOk (x : Int) : CallG false Try.prog 85 [.int .i64 x] (fun _ => true) [] 0 fun v m nx => v = .bool (decide (x ≥ 1) && decide (x ≤ 64)) ∧ m = [] ∧ nx = 0 := by
  refine fn_okG Try.func85 rfl (by show 1 ≤ _; decide) ?_
  cases h1 : decide (x ≥ 1) <;> cases h2 : decide (x ≤ 64) <;>
    (simp (config := { maxSteps := 1000000, implicitDefEqProofs := false }) only [-List.reduceReplicate, Nat.reduceBEq, renA, renL, renM, renO, evx, evs, evp, Eng.look, cst, cst1, putd, dstOk, params, loadx, partx, loI, hiI, bltx, mmI, boxx, srcx, calx, nilx, upd, del, resv, fillA, setMany, Nat.reduceLT, Nat.reduceLeDiff, Nat.reduceEqDiff, Nat.reduceAdd, Nat.reduceMul, Nat.reduceSub, reduceIte, reduceCtorEq, if_true, if_false, ite_true, ite_false, eq_self, forall_const, implies_true, Int.reduceLT, Int.reduceLE, Int.reduceToNat, Int.reduceAdd, Int.reduceSub, Int.reduceNeg, ne_eq, Int.reduceEq, Int.reduceNe, Int.reduceBEq, Int.reduceBNe, beq_self_eq_true, bne_self_eq_false, BitVec.reduceBEq, BitVec.reduceBNe, BitVec.reduceOfInt, BitVec.reduceSetWidth, wrD, engS0, engS1, engS2, engS3, engS4, engS5, engS6, engS7, engS8, engS9, engU0, engT0, engT1, engT2, Fx.t3, Fx.t4, Try.results85, Try.ntmps85, h1, h2]; exact Fin.anyv (fun _ => rfl))
theorem mulOk (y : BitVec 64) (h1 : y &&& 4294967295#64 = y) (h2 : y >>> 32 = 0#64) : CallG false Try.prog 94 [.int .u64 ((1#64).toNat : Int), .int .u64 (y.toNat : Int)] (fun _ => true) [] 0 fun v m nx => v = .tup [.int .u64 ((0#64).toNat : Int), .int .u64 (y.toNat : Int)] ∧ m = [] ∧ nx = 0 := by
  refine fn_okG Try.func94 rfl (by show 2 ≤ _; decide) ?_
  simp (config := { maxSteps := 1000000, implicitDefEqProofs := false }) only [-List.reduceReplicate, Nat.reduceBEq, renA, renL, renM, renO, evx, evs, evp, Eng.look, cst, cst1, putd, dstOk, params, loadx, partx, loI, hiI, bltx, mmI, boxx, srcx, calx, nilx, upd, del, resv, fillA, setMany, Nat.reduceLT, Nat.reduceLeDiff, Nat.reduceEqDiff, Nat.reduceAdd, Nat.reduceMul, Nat.reduceSub, reduceIte, reduceCtorEq, if_true, if_false, ite_true, ite_false, eq_self, forall_const, implies_true, Int.reduceLT, Int.reduceLE, Int.reduceToNat, Int.reduceAdd, Int.reduceSub, Int.reduceNeg, ne_eq, Int.reduceEq, Int.reduceNe, Int.reduceBEq, Int.reduceBNe, beq_self_eq_true, bne_self_eq_false, BitVec.reduceBEq, BitVec.reduceBNe, BitVec.reduceOfInt, BitVec.reduceSetWidth, wrD, engS0, engS1, engS2, engS3, engS4, engS5, engS6, engS7, engS8, engS9, engU0, engT0, engT1, engT2, Fx.t1, Fx.t22, Fx.t53, Fx.t117, Fx.en99, Fx.en100, Try.results94, Try.ntmps94]
  refine (mul64Ok y h1 h2).flat0 ⟨rfl, rfl, trivial⟩ (fun _ => rfl) rfl ?_
  simp (config := { maxSteps := 1000000, implicitDefEqProofs := false }) only [-List.reduceReplicate, Nat.reduceBEq, renA, renL, renM, renO, evx, evs, evp, Eng.look, cst, cst1, putd, dstOk, params, loadx, partx, loI, hiI, bltx, mmI, boxx, srcx, calx, nilx, upd, del, resv, fillA, setMany, Nat.reduceLT, Nat.reduceLeDiff, Nat.reduceEqDiff, Nat.reduceAdd, Nat.reduceMul, Nat.reduceSub, reduceIte, reduceCtorEq, if_true, if_false, ite_true, ite_false, eq_self, forall_const, implies_true, Int.reduceLT, Int.reduceLE, Int.reduceToNat, Int.reduceAdd, Int.reduceSub, Int.reduceNeg, ne_eq, Int.reduceEq, Int.reduceNe, Int.reduceBEq, Int.reduceBNe, beq_self_eq_true, bne_self_eq_false, BitVec.reduceBEq, BitVec.reduceBNe, BitVec.reduceOfInt, BitVec.reduceSetWidth, wrD, engS0, engS1, engS2, engS3, engS4, engS5, engS6, engS7, engS8, engS9, engU0, engT0, engT1, engT2, Fx.t1, Fx.t22, Fx.t53, Fx.t117, Fx.en99, Fx.en100]
  exact Fin.anyv (fun _ => rfl)
theorem rowRep (x : Int) (w k m : Nat) (h1 : m ≤ k) (h2 : m ≤ w - k) : spl (zs (List.replicate k x ++ List.replicate (w - k) 0)) k (List.take m (List.take k (zs (List.replicate k x ++ List.replicate (w - k) 0)))) = zs (List.replicate (k + m) x ++ List.replicate (w - (k + m)) 0) := by
  have e1 : ∀ a b : Nat, zs (List.replicate a x ++ List.replicate b 0) = List.replicate a (AV.int .i64 x) ++ List.replicate b (AV.int .i64 0) := fun a b => by simp [zs]
  rw [e1, e1]
  have t1 : List.take k (List.replicate k (AV.int .i64 x) ++ List.replicate (w - k) (AV.int .i64 0)) = List.replicate k (AV.int .i64 x) := by rw [List.take_append_of_le_length (by simp), List.take_of_length_le (by simp)]
  have t2 : List.take m (List.replicate k (AV.int .i64 x)) = List.replicate m (AV.int .i64 x) := by rw [List.take_replicate, Nat.min_eq_left h1]
  have t3 : List.drop (k + m) (List.replicate k (AV.int .i64 x) ++ List.replicate (w - k) (AV.int .i64 0)) = List.replicate (w - k - m) (AV.int .i64 0) := by
    rw [← List.drop_drop, List.drop_left' (by simp), List.drop_replicate]
  rw [t1, t2, spl, t1, List.length_replicate, t3, List.replicate_append_replicate, show w - k - m = w - (k + m) by omega]
/-- a row, w long, of what was one -/
theorem repOk {wr : Nat → Bool} {m : Mem} {nx n : Nat} {x : Int} (D : Rdm wr m nx) (hlt : ∀ p ∈ m, p.1 < nx) (hn : Eng.look m n = some (.cells [.int .i64 x] 3)) (w : Nat) (hw : 1 ≤ w ∧ w ≤ 64) : CallG false Try.prog 86 [.sl n 0 1 1, .int .i64 w] wr m nx
    (fun v m' nx' => v = .sl nx 0 w w ∧ m' = (nx, .cells (zs (List.replicate w x)) 3) :: m ∧ nx' = nx + 1) := by
  refine fn_okG Try.func86 rfl (by show 2 ≤ _; decide) ?_
  obtain ⟨s1, s2, s3⟩ := small64 ⟨w, by omega⟩
  have s1 : BitVec.ofNat 64 w &&& 4294967295#64 = BitVec.ofNat 64 w := s1
  have s2 : BitVec.ofNat 64 w >>> 32 = 0#64 := s2
  have s3 : (BitVec.ofNat 64 w).toNat = w := s3
  have g0 : decide ((w : Int) < 0) = false := decide_eq_false (by omega)
  simp (config := { maxSteps := 1000000, implicitDefEqProofs := false }) only [-List.reduceReplicate, Nat.reduceBEq, renA, renL, renM, renO, evx, evs, evp, Eng.look, cst, cst1, putd, dstOk, params, loadx, partx, loI, hiI, bltx, mmI, boxx, srcx, calx, nilx, upd, del, resv, fillA, setMany, Nat.reduceLT, Nat.reduceLeDiff, Nat.reduceEqDiff, Nat.reduceAdd, Nat.reduceMul, Nat.reduceSub, reduceIte, reduceCtorEq, if_true, if_false, ite_true, ite_false, eq_self, forall_const, implies_true, Int.reduceLT, Int.reduceLE, Int.reduceToNat, Int.reduceAdd, Int.reduceSub, Int.reduceNeg, ne_eq, Int.reduceEq, Int.reduceNe, Int.reduceBEq, Int.reduceBNe, beq_self_eq_true, bne_self_eq_false, BitVec.reduceBEq, BitVec.reduceBNe, BitVec.reduceOfInt, BitVec.reduceSetWidth, wrD, engS0, engS1, engS2, engS3, engS4, engS5, engS6, engS7, engS8, engS9, engU0, engT0, engT1, engT2, Fx.t1, Fx.t3, Fx.t4, Fx.t20, Fx.t91, Fx.t117, Fx.en94, Try.results86, Try.ntmps86, g0]
  refine (mulOk (BitVec.ofNat 64 w) s1 s2).flat0 ⟨rfl, rfl, trivial⟩ (fun _ => rfl) rfl ?_
  have z0 : ((0#64).toNat : Int) = 0 := rfl
  have z1 : decide ((0 : Int) > 0) = false := by decide
  have g3 : decide ((w : Int) > 9223372036854775807) = false := decide_eq_false (by omega)
  have w1 : IntKind.i64.wrap (w : Int) = w := by rw [wrap_i64] <;> omega
  have e1 : (nx = n) = False := eq_false (fun e => by obtain ⟨p, hp, h⟩ := look_lt hn; have := hlt p hp; omega)
  have m1 : min (1 : Int) (w : Int) = 1 := by omega
  simp (config := { maxSteps := 1000000, implicitDefEqProofs := false }) only [-List.reduceReplicate, Nat.reduceBEq, renA, renL, renM, renO, evx, evs, evp, Eng.look, cst, cst1, putd, dstOk, params, loadx, partx, loI, hiI, bltx, mmI, boxx, srcx, calx, nilx, upd, del, resv, fillA, setMany, Nat.reduceLT, Nat.reduceLeDiff, Nat.reduceEqDiff, Nat.reduceAdd, Nat.reduceMul, Nat.reduceSub, reduceIte, reduceCtorEq, if_true, if_false, ite_true, ite_false, eq_self, forall_const, implies_true, Int.reduceLT, Int.reduceLE, Int.reduceToNat, Int.reduceAdd, Int.reduceSub, Int.reduceNeg, ne_eq, Int.reduceEq, Int.reduceNe, Int.reduceBEq, Int.reduceBNe, beq_self_eq_true, bne_self_eq_false, BitVec.reduceBEq, BitVec.reduceBNe, BitVec.reduceOfInt, BitVec.reduceSetWidth, wrD, engS0, engS1, engS2, engS3, engS4, engS5, engS6, engS7, engS8, engS9, engU0, engT0, engT1, engT2, Fx.t1, Fx.t3, Fx.t4, Fx.t20, Fx.t91, Fx.t117, Fx.en94, z0, z1, s3, g3, w1, hn, e1, m1]
  refine ⟨by omega, rfl, rfl, D.wn _ (Nat.le_refl _), ?_⟩
  have DR := fun (k : Nat) => D.cons hlt (.cells (zs (List.replicate k x ++ List.replicate (w - k) 0)) 3)
  refine LoopOk.upX (fun i (k : Nat) => i + 1 ≤ k ∧ k ≤ w) w (fun i k => ([(8, .int .i64 (k : Nat)), (7, .sl nx 0 w w)], (nx, .cells (zs (List.replicate k x ++ List.replicate (w - k) 0)) 3) :: m, nx + 1)) 1 ⟨Nat.le_refl _, hw.1⟩ ?_ ?_
  · refine Le.same (Nat.le_succ _) ⟨rfl, rfl, trivial⟩ (memSame_all fun y hy => ?_) (DR 1).nd (DR 1).wn (DR 1).kp
    rcases List.mem_cons.1 hy with rfl | hy
    · rw [look_cons, if_pos rfl]
      obtain ⟨v, rfl⟩ : ∃ v, w = v + 1 := ⟨w - 1, by omega⟩
      have : min 1 (v + 1) = 1 := by omega
      rw [this]
      show some (AObj.cells (spl (List.replicate (v + 1) (AV.int .i64 0)) 0 [AV.int .i64 x]) _) = some (AObj.cells _ _)
      simp [spl, zs, List.replicate_succ]
    · have := hlt y hy
      rw [look_cons, if_neg (by omega)]
      exact look_mem D.nd hy
  rintro i k ⟨hi, k1, k2⟩
  have k1 : i + 1 ≤ k := k1
  have k2 : k ≤ w := k2
  rcases Nat.lt_or_ge k w with h | h
  · have g1 : decide ((k : Int) < (w : Int)) = true := decide_eq_true (by omega)
    simp (config := { maxSteps := 1000000, implicitDefEqProofs := false }) only [-List.reduceReplicate, Nat.reduceBEq, renA, renL, renM, renO, evx, evs, evp, Eng.look, cst, cst1, putd, dstOk, params, loadx, partx, loI, hiI, bltx, mmI, boxx, srcx, calx, nilx, upd, del, resv, fillA, setMany, Nat.reduceLT, Nat.reduceLeDiff, Nat.reduceEqDiff, Nat.reduceAdd, Nat.reduceMul, Nat.reduceSub, reduceIte, reduceCtorEq, if_true, if_false, ite_true, ite_false, eq_self, forall_const, implies_true, Int.reduceLT, Int.reduceLE, Int.reduceToNat, Int.reduceAdd, Int.reduceSub, Int.reduceNeg, ne_eq, Int.reduceEq, Int.reduceNe, Int.reduceBEq, Int.reduceBNe, beq_self_eq_true, bne_self_eq_false, BitVec.reduceBEq, BitVec.reduceBNe, BitVec.reduceOfInt, BitVec.reduceSetWidth, wrD, engS0, engS1, engS2, engS3, engS4, engS5, engS6, engS7, engS8, engS9, engU0, engT0, engT1, engT2, Fx.t1, Fx.t3, Fx.t4, Fx.t20, Fx.t91, Fx.t117, Fx.en94, g1]
    refine ⟨Fx.mixed, .inl ⟨[(0, false), (1, false), (2, false), (3, false), (4, false), (5, false), (6, false), (7, true), (8, false), (9, false)], [nx], by kernel_rfl, (fun j hj => by cases List.mem_singleton.1 hj; exact ⟨D.wn _ (Nat.le_refl _), by rw [look_cons, if_pos rfl]; rfl⟩), ?_⟩⟩
    simp (config := { maxSteps := 1000000, implicitDefEqProofs := false }) only [-List.reduceReplicate, Nat.reduceBEq, renA, renL, renM, renO, evx, evs, evp, Eng.look, cst, cst1, putd, dstOk, params, loadx, partx, loI, hiI, bltx, mmI, boxx, srcx, calx, nilx, upd, del, resv, fillA, setMany, Nat.reduceLT, Nat.reduceLeDiff, Nat.reduceEqDiff, Nat.reduceAdd, Nat.reduceMul, Nat.reduceSub, reduceIte, reduceCtorEq, if_true, if_false, ite_true, ite_false, eq_self, forall_const, implies_true, Int.reduceLT, Int.reduceLE, Int.reduceToNat, Int.reduceAdd, Int.reduceSub, Int.reduceNeg, ne_eq, Int.reduceEq, Int.reduceNe, Int.reduceBEq, Int.reduceBNe, beq_self_eq_true, bne_self_eq_false, BitVec.reduceBEq, BitVec.reduceBNe, BitVec.reduceOfInt, BitVec.reduceSetWidth, wrD, engS0, engS1, engS2, engS3, engS4, engS5, engS6, engS7, engS8, engS9, engU0, engT0, engT1, engT2, Fx.t1, Fx.t3, Fx.t4, Fx.t20, Fx.t91, Fx.t117, Fx.en94, g1]
    refine ⟨⟨by omega, by omega⟩, by omega, by rw [Nat.sub_zero, List.length_take, zs_len, List.length_append, List.length_replicate, List.length_replicate]; omega, ?_, by rw [zs_len, List.length_append, List.length_replicate, List.length_replicate]; omega, ?_⟩
    · exact List.all_eq_true.2 fun y hy => List.all_eq_true.1 (zs_one1 _) y (List.mem_of_mem_take hy)
    have w2 : IntKind.i64.wrap ((k : Int) + min ((k - 0 : Nat) : Int) ((w - k : Nat) : Int)) = ((k + min k (w - k) : Nat) : Int) := by rw [wrap_i64] <;> omega
    refine UpX_normal (show i < w by omega) (k + min k (w - k)) ⟨by omega, by omega⟩ ?_
    refine Le.same (Nat.le_succ _) ⟨by show some (AV.int .i64 (IntKind.i64.wrap _)) = _; rw [w2], rfl, trivial⟩ (memSame_all fun y hy => ?_) (DR (k + min k (w - k))).nd (DR (k + min k (w - k))).wn (DR (k + min k (w - k))).kp
    rcases List.mem_cons.1 hy with rfl | hy
    · rw [look_cons, if_pos rfl]
      show some (AObj.cells (spl _ _ (List.take _ (List.take (k - 0) _))) _) = some (AObj.cells _ _)
      rw [Nat.sub_zero, ← rowRep x w k (min k (w - k)) (Nat.min_le_left _ _) (Nat.min_le_right _ _)]
    · have := hlt y hy
      rw [look_cons, if_neg (by omega)]
      exact look_mem D.nd hy
  · have hkw : k = w := by omega
    subst hkw
    have g1 : decide ((k : Int) < (k : Int)) = false := decide_eq_false (by omega)
    simp (config := { maxSteps := 1000000, implicitDefEqProofs := false }) only [-List.reduceReplicate, Nat.reduceBEq, renA, renL, renM, renO, evx, evs, evp, Eng.look, cst, cst1, putd, dstOk, params, loadx, partx, loI, hiI, bltx, mmI, boxx, srcx, calx, nilx, upd, del, resv, fillA, setMany, Nat.reduceLT, Nat.reduceLeDiff, Nat.reduceEqDiff, Nat.reduceAdd, Nat.reduceMul, Nat.reduceSub, reduceIte, reduceCtorEq, if_true, if_false, ite_true, ite_false, eq_self, forall_const, implies_true, Int.reduceLT, Int.reduceLE, Int.reduceToNat, Int.reduceAdd, Int.reduceSub, Int.reduceNeg, ne_eq, Int.reduceEq, Int.reduceNe, Int.reduceBEq, Int.reduceBNe, beq_self_eq_true, bne_self_eq_false, BitVec.reduceBEq, BitVec.reduceBNe, BitVec.reduceOfInt, BitVec.reduceSetWidth, wrD, engS0, engS1, engS2, engS3, engS4, engS5, engS6, engS7, engS8, engS9, engU0, engT0, engT1, engT2, Fx.t1, Fx.t3, Fx.t4, Fx.t20, Fx.t91, Fx.t117, Fx.en94, g1]
    have DE := D.cons hlt (.cells (zs (List.replicate k x)) 3)
    exact Fin.keepW (m0 := (nx, .cells (zs (List.replicate k x)) 3) :: m) (Nat.le_succ _) (memSame_slf DE.nd) DE.nd DE.kp ⟨rfl, rfl, rfl⟩
def newS (w : Nat) : PS := ⟨0, [], List.replicate w (-1), [], 0⟩
def NewK (jobs w room : Int) : Kv := fun v m nx => if jobs < 0 ∨ 10000 < jobs ∨ w < 1 ∨ 64 < w ∨ room < 1 ∨ 64 < room then v = .tup [.nilp, .int .i64 1] ∧ m = [] ∧ nx = 0
  else ∃ (a b c : Nat), v = .tup [.ptr a 0, .int .i64 0] ∧ Rdm (fun _ => true) m nx ∧ (∀ p ∈ m, p.1 < nx) ∧ PoolAt m nx a b c jobs.toNat room.toNat (newS w.toNat) .nils .nils [] [] []
set_option maxHeartbeats 2000000 in
theorem newPOk (jobs w room : Int) : CallG false Try.prog 54 [.int .i64 jobs, .int .i64 w, .int .i64 room] (fun _ => true) [] 0 (NewK jobs w room) := by
  refine fn_okG Try.func54 rfl (by show 3 ≤ _; decide) ?_
  have bad : (jobs < 0 ∨ 10000 < jobs ∨ w < 1 ∨ 64 < w ∨ room < 1 ∨ 64 < room) → Eng.Fin 0 (fun _ => true) [] 0 (NewK jobs w room) (.tup [.nilp, .int .i64 1]) := fun h => Fin.flatv (fun _ => rfl) (fun _ => rfl) (by rw [NewK, if_pos h]; exact ⟨rfl, rfl, rfl⟩)
  rcases Int.lt_or_le jobs 0 with h1 | h1
  · have g1 : decide (jobs < 0) = true := decide_eq_true h1
    simp (config := { maxSteps := 1000000, implicitDefEqProofs := false }) only [-List.reduceReplicate, Nat.reduceBEq, renA, renL, renM, renO, evx, evs, evp, Eng.look, cst, cst1, putd, dstOk, params, loadx, partx, loI, hiI, bltx, mmI, boxx, srcx, calx, nilx, upd, del, resv, fillA, setMany, Nat.reduceLT, Nat.reduceLeDiff, Nat.reduceEqDiff, Nat.reduceAdd, Nat.reduceMul, Nat.reduceSub, reduceIte, reduceCtorEq, if_true, if_false, ite_true, ite_false, eq_self, forall_const, implies_true, Int.reduceLT, Int.reduceLE, Int.reduceToNat, Int.reduceAdd, Int.reduceSub, Int.reduceNeg, ne_eq, Int.reduceEq, Int.reduceNe, Int.reduceBEq, Int.reduceBNe, beq_self_eq_true, bne_self_eq_false, BitVec.reduceBEq, BitVec.reduceBNe, BitVec.reduceOfInt, BitVec.reduceSetWidth, wrD, engS0, engS1, engS2, engS3, engS4, engS5, engS6, engS7, engS8, engS9, engU0, engT0, engT1, engT2, Fx.t3, Fx.t4, Fx.t25, Fx.t91, Fx.t92, Fx.t135, Fx.t137, Fx.t138, Fx.t139, Fx.en85, Fx.en86, Try.results54, Try.ntmps54, g1]
    exact bad (.inl h1)
  have g1 : decide (jobs < 0) = false := decide_eq_false (by omega)
  rcases Int.lt_or_le 10000 jobs with h2 | h2
  · have g2 : decide (jobs > 10000) = true := decide_eq_true h2
    simp (config := { maxSteps := 1000000, implicitDefEqProofs := false }) only [-List.reduceReplicate, Nat.reduceBEq, renA, renL, renM, renO, evx, evs, evp, Eng.look, cst, cst1, putd, dstOk, params, loadx, partx, loI, hiI, bltx, mmI, boxx, srcx, calx, nilx, upd, del, resv, fillA, setMany, Nat.reduceLT, Nat.reduceLeDiff, Nat.reduceEqDiff, Nat.reduceAdd, Nat.reduceMul, Nat.reduceSub, reduceIte, reduceCtorEq, if_true, if_false, ite_true, ite_false, eq_self, forall_const, implies_true, Int.reduceLT, Int.reduceLE, Int.reduceToNat, Int.reduceAdd, Int.reduceSub, Int.reduceNeg, ne_eq, Int.reduceEq, Int.reduceNe, Int.reduceBEq, Int.reduceBNe, beq_self_eq_true, bne_self_eq_false, BitVec.reduceBEq, BitVec.reduceBNe, BitVec.reduceOfInt, BitVec.reduceSetWidth, wrD, engS0, engS1, engS2, engS3, engS4, engS5, engS6, engS7, engS8, engS9, engU0, engT0, engT1, engT2, Fx.t3, Fx.t4, Fx.t25, Fx.t91, Fx.t92, Fx.t135, Fx.t137, Fx.t138, Fx.t139, Fx.en85, Fx.en86, Try.results54, Try.ntmps54, g1, g2]
    exact bad (.inr (.inl h2))
  have g2 : decide (jobs > 10000) = false := decide_eq_false (by omega)
  simp (config := { maxSteps := 1000000, implicitDefEqProofs := false }) only [-List.reduceReplicate, Nat.reduceBEq, renA, renL, renM, renO, evx, evs, evp, Eng.look, cst, cst1, putd, dstOk, params, loadx, partx, loI, hiI, bltx, mmI, boxx, srcx, calx, nilx, upd, del, resv, fillA, setMany, Nat.reduceLT, Nat.reduceLeDiff, Nat.reduceEqDiff, Nat.reduceAdd, Nat.reduceMul, Nat.reduceSub, reduceIte, reduceCtorEq, if_true, if_false, ite_true, ite_false, eq_self, forall_const, implies_true, Int.reduceLT, Int.reduceLE, Int.reduceToNat, Int.reduceAdd, Int.reduceSub, Int.reduceNeg, ne_eq, Int.reduceEq, Int.reduceNe, Int.reduceBEq, Int.reduceBNe, beq_self_eq_true, bne_self_eq_false, BitVec.reduceBEq, BitVec.reduceBNe, BitVec.reduceOfInt, BitVec.reduceSetWidth, wrD, engS0, engS1, engS2, engS3, engS4, engS5, engS6, engS7, engS8, engS9, engU0, engT0, engT1, engT2, Fx.t3, Fx.t4, Fx.t25, Fx.t91, Fx.t92, Fx.t135, Fx.t137, Fx.t138, Fx.t139, Fx.en85, Fx.en86, Try.results54, Try.ntmps54, g1, g2]
  refine (inOk w).flat0 ⟨rfl, trivial⟩ (fun _ => rfl) rfl ?_
  by_cases h3 : 1 ≤ w ∧ w ≤ 64
  rotate_left
  · have g3 : (decide (w ≥ 1) && decide (w ≤ 64)) = false := by
      rw [Bool.and_eq_false_iff, decide_eq_false_iff_not, decide_eq_false_iff_not]; omega
    simp (config := { maxSteps := 1000000, implicitDefEqProofs := false }) only [-List.reduceReplicate, Nat.reduceBEq, renA, renL, renM, renO, evx, evs, evp, Eng.look, cst, cst1, putd, dstOk, params, loadx, partx, loI, hiI, bltx, mmI, boxx, srcx, calx, nilx, upd, del, resv, fillA, setMany, Nat.reduceLT, Nat.reduceLeDiff, Nat.reduceEqDiff, Nat.reduceAdd, Nat.reduceMul, Nat.reduceSub, reduceIte, reduceCtorEq, if_true, if_false, ite_true, ite_false, eq_self, forall_const, implies_true, Int.reduceLT, Int.reduceLE, Int.reduceToNat, Int.reduceAdd, Int.reduceSub, Int.reduceNeg, ne_eq, Int.reduceEq, Int.reduceNe, Int.reduceBEq, Int.reduceBNe, beq_self_eq_true, bne_self_eq_false, BitVec.reduceBEq, BitVec.reduceBNe, BitVec.reduceOfInt, BitVec.reduceSetWidth, wrD, engS0, engS1, engS2, engS3, engS4, engS5, engS6, engS7, engS8, engS9, engU0, engT0, engT1, engT2, Fx.t3, Fx.t4, Fx.t25, Fx.t91, Fx.t92, Fx.t135, Fx.t137, Fx.t138, Fx.t139, Fx.en85, Fx.en86, g3]
    exact bad (by omega)
  have g3 : (decide (w ≥ 1) && decide (w ≤ 64)) = true := by
    rw [Bool.and_eq_true, decide_eq_true_eq, decide_eq_true_eq]; omega
  simp (config := { maxSteps := 1000000, implicitDefEqProofs := false }) only [-List.reduceReplicate, Nat.reduceBEq, renA, renL, renM, renO, evx, evs, evp, Eng.look, cst, cst1, putd, dstOk, params, loadx, partx, loI, hiI, bltx, mmI, boxx, srcx, calx, nilx, upd, del, resv, fillA, setMany, Nat.reduceLT, Nat.reduceLeDiff, Nat.reduceEqDiff, Nat.reduceAdd, Nat.reduceMul, Nat.reduceSub, reduceIte, reduceCtorEq, if_true, if_false, ite_true, ite_false, eq_self, forall_const, implies_true, Int.reduceLT, Int.reduceLE, Int.reduceToNat, Int.reduceAdd, Int.reduceSub, Int.reduceNeg, ne_eq, Int.reduceEq, Int.reduceNe, Int.reduceBEq, Int.reduceBNe, beq_self_eq_true, bne_self_eq_false, BitVec.reduceBEq, BitVec.reduceBNe, BitVec.reduceOfInt, BitVec.reduceSetWidth, wrD, engS0, engS1, engS2, engS3, engS4, engS5, engS6, engS7, engS8, engS9, engU0, engT0, engT1, engT2, Fx.t3, Fx.t4, Fx.t25, Fx.t91, Fx.t92, Fx.t135, Fx.t137, Fx.t138, Fx.t139, Fx.en85, Fx.en86, g3]
  refine (inOk room).flat0 ⟨rfl, trivial⟩ (fun _ => rfl) rfl ?_
  by_cases h4 : 1 ≤ room ∧ room ≤ 64
  rotate_left
  · have g4 : (decide (room ≥ 1) && decide (room ≤ 64)) = false := by
      rw [Bool.and_eq_false_iff, decide_eq_false_iff_not, decide_eq_false_iff_not]; omega
    simp (config := { maxSteps := 1000000, implicitDefEqProofs := false }) only [-List.reduceReplicate, Nat.reduceBEq, renA, renL, renM, renO, evx, evs, evp, Eng.look, cst, cst1, putd, dstOk, params, loadx, partx, loI, hiI, bltx, mmI, boxx, srcx, calx, nilx, upd, del, resv, fillA, setMany, Nat.reduceLT, Nat.reduceLeDiff, Nat.reduceEqDiff, Nat.reduceAdd, Nat.reduceMul, Nat.reduceSub, reduceIte, reduceCtorEq, if_true, if_false, ite_true, ite_false, eq_self, forall_const, implies_true, Int.reduceLT, Int.reduceLE, Int.reduceToNat, Int.reduceAdd, Int.reduceSub, Int.reduceNeg, ne_eq, Int.reduceEq, Int.reduceNe, Int.reduceBEq, Int.reduceBNe, beq_self_eq_true, bne_self_eq_false, BitVec.reduceBEq, BitVec.reduceBNe, BitVec.reduceOfInt, BitVec.reduceSetWidth, wrD, engS0, engS1, engS2, engS3, engS4, engS5, engS6, engS7, engS8, engS9, engU0, engT0, engT1, engT2, Fx.t3, Fx.t4, Fx.t25, Fx.t91, Fx.t92, Fx.t135, Fx.t137, Fx.t138, Fx.t139, Fx.en85, Fx.en86, g4]
    exact bad (by omega)
  have g4 : (decide (room ≥ 1) && decide (room ≤ 64)) = true := by
    rw [Bool.and_eq_true, decide_eq_true_eq, decide_eq_true_eq]; omega
  obtain ⟨wn, rfl⟩ : ∃ wn : Nat, w = (wn : Int) := ⟨w.toNat, by omega⟩
  simp (config := { maxSteps := 1000000, implicitDefEqProofs := false }) only [-List.reduceReplicate, Nat.reduceBEq, renA, renL, renM, renO, evx, evs, evp, Eng.look, cst, cst1, putd, dstOk, params, loadx, partx, loI, hiI, bltx, mmI, boxx, srcx, calx, nilx, upd, del, resv, fillA, setMany, Nat.reduceLT, Nat.reduceLeDiff, Nat.reduceEqDiff, Nat.reduceAdd, Nat.reduceMul, Nat.reduceSub, reduceIte, reduceCtorEq, if_true, if_false, ite_true, ite_false, eq_self, forall_const, implies_true, Int.reduceLT, Int.reduceLE, Int.reduceToNat, Int.reduceAdd, Int.reduceSub, Int.reduceNeg, ne_eq, Int.reduceEq, Int.reduceNe, Int.reduceBEq, Int.reduceBNe, beq_self_eq_true, bne_self_eq_false, BitVec.reduceBEq, BitVec.reduceBNe, BitVec.reduceOfInt, BitVec.reduceSetWidth, wrD, engS0, engS1, engS2, engS3, engS4, engS5, engS6, engS7, engS8, engS9, engU0, engT0, engT1, engT2, Fx.t3, Fx.t4, Fx.t25, Fx.t91, Fx.t92, Fx.t135, Fx.t137, Fx.t138, Fx.t139, Fx.en85, Fx.en86, g4]
  have D0 : Rdm (fun _ => true) [((0 : Nat), AObj.cells [.int .i64 (-1)] 3)] 1 := rdmT (by simp)
  refine ⟨.inr trivial, ?_⟩
  refine (repOk D0 (fun p hp => by rw [List.mem_singleton] at hp; subst hp; exact Nat.zero_lt_one) rfl wn (by omega)).weak ?_
  rintro v m3 nx3 ⟨rfl, rfl, rfl⟩
  simp (config := { maxSteps := 1000000, implicitDefEqProofs := false }) only [-List.reduceReplicate, Nat.reduceBEq, renA, renL, renM, renO, evx, evs, evp, Eng.look, cst, cst1, putd, dstOk, params, loadx, partx, loI, hiI, bltx, mmI, boxx, srcx, calx, nilx, upd, del, resv, fillA, setMany, Nat.reduceLT, Nat.reduceLeDiff, Nat.reduceEqDiff, Nat.reduceAdd, Nat.reduceMul, Nat.reduceSub, reduceIte, reduceCtorEq, if_true, if_false, ite_true, ite_false, eq_self, forall_const, implies_true, Int.reduceLT, Int.reduceLE, Int.reduceToNat, Int.reduceAdd, Int.reduceSub, Int.reduceNeg, ne_eq, Int.reduceEq, Int.reduceNe, Int.reduceBEq, Int.reduceBNe, beq_self_eq_true, bne_self_eq_false, BitVec.reduceBEq, BitVec.reduceBNe, BitVec.reduceOfInt, BitVec.reduceSetWidth, wrD, engS0, engS1, engS2, engS3, engS4, engS5, engS6, engS7, engS8, engS9, engU0, engT0, engT1, engT2, Fx.t3, Fx.t4, Fx.t25, Fx.t91, Fx.t92, Fx.t135, Fx.t137, Fx.t138, Fx.t139, Fx.en85, Fx.en86, mxT137]
  obtain ⟨jn, rfl⟩ : ∃ jn : Nat, jobs = (jn : Int) := ⟨jobs.toNat, by omega⟩
  obtain ⟨rn, rfl⟩ : ∃ rn : Nat, room = (rn : Int) := ⟨room.toNat, by omega⟩
  have hl : (List.replicate wn (-1 : Int)).length = wn := List.length_replicate
  obtain ⟨M, hM⟩ : ∃ M : Mem, M = [(3, .cells [.int .i64 jn, .int .i64 rn, .int .i64 0, .nils, .sl 1 0 wn wn, .map 2, .nils] 139), (2, .mx (.i .i64) [] [] []), (1, .cells (zs (List.replicate wn (-1))) 3), (0, .cells [.int .i64 (-1)] 3)] := ⟨_, rfl⟩
  have DM : Rdm (fun _ => true) M 4 := rdmT (by rw [hM]; show ([3, 2, 1, 0] : List Nat).Nodup; decide)
  have hlt : ∀ p ∈ M, p.1 < 4 := by
    intro p hp
    rw [hM] at hp
    simp only [List.mem_cons, List.not_mem_nil, or_false] at hp
    rcases hp with rfl | rfl | rfl | rfl <;> (show (_ : Nat) < 4; omega)
  rw [← hM]
  refine Fin.keepW (m0 := M) (Nat.zero_le _) (memSame_slf DM.nd) DM.nd DM.kp ?_
  rw [NewK, if_neg (by omega)]
  simp only [Int.toNat_natCast]
  refine ⟨3, 1, 2, rfl, DM, hlt, ⟨?_, by rw [hM]; rfl, by rw [hM]; rfl, rfl, .inl ⟨rfl, rfl, rfl⟩, .inl ⟨rfl, rfl, rfl⟩, by show ([3, 1, 2] : List Nat).Nodup; decide, fun k hk => ?_, Nat.zero_le _, Nat.zero_le _, by show (List.replicate wn (-1 : Int)).length ≤ 64; rw [hl]; omega, by omega, by omega, Nat.zero_le _⟩⟩
  · show _ = some (AObj.cells [.int .i64 jn, .int .i64 rn, .int .i64 0, .nils, .sl 1 0 (List.replicate wn (-1 : Int)).length (List.replicate wn (-1 : Int)).length, .map 2, .nils] 139)
    rw [hl, hM]; rfl
  · simp only [List.append_nil, List.mem_cons, List.not_mem_nil, or_false] at hk
    rcases hk with rfl | rfl | rfl <;> decide
end Go.Proofs.Ytmnbbpckglppjaa
