/- The document's branch filters: a word's number, its four, its sign, and how it is turned. -/
import Derived.Test.YtiibjaommelkkaaEng19
import Derived.Test.YtiibjaommelkkaaEng26
import Derived.Test.YtiibjaommelkkaaBranf
import Derived.Test.YtiibjaommelkkaaBranpm
set_option linter.unusedVariables false
set_option linter.unusedSimpArgs false
set_option maxRecDepth 100000
namespace Go.Proofs.Ytiibjaommelkkaa
open Go Go.Eng

theorem qd (x c : Int) (h0 : 0 ≤ x) (h1 : x ≤ 1099511627776) (hc : 0 < c) : IntKind.i64.wrap (x.tdiv c) = x / c := by
  rw [Int.tdiv_eq_ediv_of_nonneg h0]
  have := Int.ediv_nonneg h0 (Int.le_of_lt hc)
  have := Int.ediv_le_self c h0
  exact wrap_i64 (by omega) (by omega)
theorem qm (x c : Int) (h0 : 0 ≤ x) : x.tmod c = x % c := Int.tmod_eq_emod_of_nonneg h0
theorem signedOk (n m all : Int) (h1 : 0 ≤ n) (h2 : n ≤ 1099511627776) (h3 : 0 ≤ m) (h4 : m ≤ 1099511627776) (h5 : 0 ≤ all) (h6 : all ≤ 1099511627776) :
    CallOk Try.prog 82 [.int .i64 n, .int .i64 m, .int .i64 all] (fun _ => true) [] 0 fun v mm nx => v = .int .i64 (signedI n m all) ∧ mm = [] ∧ nx = 0 := by
  refine fn_ok Try.func82 rfl (by show 3 ≤ _; decide) ?_
  have a1 := qd m 2 h3 h4 (by decide)
  have w1 : IntKind.i64.wrap (n + all) = n + all := by rw [wrap_i64] <;> omega
  have w2 : IntKind.i64.wrap (n + all - m) = n + all - m := by rw [wrap_i64] <;> omega
  rcases Decidable.em (n ≥ m / 2) with h | h
  · have d1 : decide (n ≥ m / 2) = true := decide_eq_true h
    simp (config := { maxSteps := 1000000, implicitDefEqProofs := false }) only [-List.reduceReplicate, Nat.reduceBEq, renA, renL, renM, renO, evx, evs, evp, Eng.look, cst, cst1, putd, dstOk, params, loadx, partx, loI, hiI, bltx, mmI, boxx, srcx, calx, nilx, upd, del, resv, fillA, setMany, Nat.reduceLT, Nat.reduceLeDiff, Nat.reduceEqDiff, Nat.reduceAdd, Nat.reduceMul, Nat.reduceSub, reduceIte, reduceCtorEq, if_true, if_false, ite_true, ite_false, eq_self, forall_const, implies_true, Int.reduceLT, Int.reduceLE, Int.reduceToNat, Int.reduceAdd, Int.reduceSub, Int.reduceNeg, ne_eq, Int.reduceEq, Int.reduceNe, Int.reduceBEq, Int.reduceBNe, beq_self_eq_true, bne_self_eq_false, BitVec.reduceBEq, BitVec.reduceBNe, BitVec.reduceOfInt, BitVec.reduceSetWidth, wrD, engS0, engS1, engS2, engS3, engS4, engS5, engS6, engS7, engS8, engS9, engT0, engT1, engT2, Fx.t3, Fx.t4, Try.results82, Try.ntmps82, a1, w1, w2, d1]
    exact Fin.flatv (fun _ => rfl) (fun f => rfl) ⟨by rw [signedI, if_pos h], rfl, rfl⟩
  · have d1 : decide (n ≥ m / 2) = false := decide_eq_false h
    simp (config := { maxSteps := 1000000, implicitDefEqProofs := false }) only [-List.reduceReplicate, Nat.reduceBEq, renA, renL, renM, renO, evx, evs, evp, Eng.look, cst, cst1, putd, dstOk, params, loadx, partx, loI, hiI, bltx, mmI, boxx, srcx, calx, nilx, upd, del, resv, fillA, setMany, Nat.reduceLT, Nat.reduceLeDiff, Nat.reduceEqDiff, Nat.reduceAdd, Nat.reduceMul, Nat.reduceSub, reduceIte, reduceCtorEq, if_true, if_false, ite_true, ite_false, eq_self, forall_const, implies_true, Int.reduceLT, Int.reduceLE, Int.reduceToNat, Int.reduceAdd, Int.reduceSub, Int.reduceNeg, ne_eq, Int.reduceEq, Int.reduceNe, Int.reduceBEq, Int.reduceBNe, beq_self_eq_true, bne_self_eq_false, BitVec.reduceBEq, BitVec.reduceBNe, BitVec.reduceOfInt, BitVec.reduceSetWidth, wrD, engS0, engS1, engS2, engS3, engS4, engS5, engS6, engS7, engS8, engS9, engT0, engT1, engT2, Fx.t3, Fx.t4, Try.results82, Try.ntmps82, a1, w1, w2, d1]
    exact Fin.flatv (fun _ => rfl) (fun f => rfl) ⟨by rw [signedI, if_neg h], rfl, rfl⟩
theorem toldI_range (n p m : Int) (back : Bool) (h : 0 < m) : 0 ≤ toldI n p back m ∧ toldI n p back m < m := by
  unfold toldI
  exact ⟨Int.emod_nonneg _ (by omega), Int.emod_lt_of_pos _ h⟩
theorem signedI_range (n m all : Int) (h0 : 0 ≤ n) (h1 : n < m) (h2 : m ≤ all) : 0 ≤ signedI n m all ∧ signedI n m all < all + m := by
  unfold signedI
  split <;> omega
theorem turned5 (w p : Int) (back : Bool) (h1 : 0 ≤ w) (h2 : w < 4294967296) (h3 : 0 ≤ p) (h4 : p < 4294967296) :
    CallOk Try.prog 65 [.int .i64 5, .int .i64 w, .int .i64 p, .bool back] (fun _ => true) [] 0 fun v m nx => v = .int .i64 (turnI 5 w p back) ∧ m = [] ∧ nx = 0 := by
  refine fn_ok Try.func65 rfl (by show 4 ≤ _; decide) ?_
  have a1 := qd w 67108864 h1 (by omega) (by decide)
  have a2 := qm w 4 h1
  have a3 := qd w 4 h1 (by omega) (by decide)
  have a4 := qm (w / 4) 16777216 (by omega)
  have a5 := qd p 4 h3 (by omega) (by decide)
  obtain ⟨r1, r2⟩ := toldI_range (w / 4 % 16777216) (p / 4) 16777216 back (by decide)
  have w1 : IntKind.i64.wrap (4 * toldI (w / 4 % 16777216) (p / 4) back 16777216) = 4 * toldI (w / 4 % 16777216) (p / 4) back 16777216 := by rw [wrap_i64] <;> omega
  have w2 : IntKind.i64.wrap (1207959552 + 4 * toldI (w / 4 % 16777216) (p / 4) back 16777216) = 1207959552 + 4 * toldI (w / 4 % 16777216) (p / 4) back 16777216 := by rw [wrap_i64] <;> omega
  have w3 : IntKind.i64.wrap (1207959552 + 4 * toldI (w / 4 % 16777216) (p / 4) back 16777216 + 1) = 1207959552 + 4 * toldI (w / 4 % 16777216) (p / 4) back 16777216 + 1 := by rw [wrap_i64] <;> omega
  cases d1 : (w / 67108864 == 18) with
  | true =>
    cases d2 : (w % 4 == 1) with
    | true =>
      simp (config := { maxSteps := 1000000, implicitDefEqProofs := false }) only [-List.reduceReplicate, Nat.reduceBEq, renA, renL, renM, renO, evx, evs, evp, Eng.look, cst, cst1, putd, dstOk, params, loadx, partx, loI, hiI, bltx, mmI, boxx, srcx, calx, nilx, upd, del, resv, fillA, setMany, Nat.reduceLT, Nat.reduceLeDiff, Nat.reduceEqDiff, Nat.reduceAdd, Nat.reduceMul, Nat.reduceSub, reduceIte, reduceCtorEq, if_true, if_false, ite_true, ite_false, eq_self, forall_const, implies_true, Int.reduceLT, Int.reduceLE, Int.reduceToNat, Int.reduceAdd, Int.reduceSub, Int.reduceNeg, ne_eq, Int.reduceEq, Int.reduceNe, Int.reduceBEq, Int.reduceBNe, beq_self_eq_true, bne_self_eq_false, BitVec.reduceBEq, BitVec.reduceBNe, BitVec.reduceOfInt, BitVec.reduceSetWidth, wrD, engS0, engS1, engS2, engS3, engS4, engS5, engS6, engS7, engS8, engS9, engT0, engT1, engT2, Fx.t3, Fx.t4, Fx.en81, Fx.en82, Try.results65, Try.ntmps65, a1, a2, a3, a4, a5, d1, d2]
      refine (toldOk (w / 4 % 16777216) (p / 4) 16777216 back (by omega) (by omega) (by omega) (by omega) (by decide) (by decide)).flatv (by simp only [argsx, argx_int, argx_bool, argx_fn, argx_ro, argx_nils, eq_self, true_and, and_true, and_self]; try trivial) (fun _ => rfl) rfl ?_
      simp (config := { maxSteps := 1000000, implicitDefEqProofs := false }) only [-List.reduceReplicate, Nat.reduceBEq, renA, renL, renM, renO, evx, evs, evp, Eng.look, cst, cst1, putd, dstOk, params, loadx, partx, loI, hiI, bltx, mmI, boxx, srcx, calx, nilx, upd, del, resv, fillA, setMany, Nat.reduceLT, Nat.reduceLeDiff, Nat.reduceEqDiff, Nat.reduceAdd, Nat.reduceMul, Nat.reduceSub, reduceIte, reduceCtorEq, if_true, if_false, ite_true, ite_false, eq_self, forall_const, implies_true, Int.reduceLT, Int.reduceLE, Int.reduceToNat, Int.reduceAdd, Int.reduceSub, Int.reduceNeg, ne_eq, Int.reduceEq, Int.reduceNe, Int.reduceBEq, Int.reduceBNe, beq_self_eq_true, bne_self_eq_false, BitVec.reduceBEq, BitVec.reduceBNe, BitVec.reduceOfInt, BitVec.reduceSetWidth, wrD, engS0, engS1, engS2, engS3, engS4, engS5, engS6, engS7, engS8, engS9, engT0, engT1, engT2, Fx.t3, Fx.t4, Fx.en81, Fx.en82, w1, w2, w3]
      refine Fin.flatv (fun _ => rfl) (fun f => rfl) ⟨?_, rfl, rfl⟩
      simp only [beq_iff_eq] at d1 d2
      simp only [turnI, if_true]
      rw [if_pos ⟨d1, d2⟩]
      rfl
    | false =>
      simp (config := { maxSteps := 1000000, implicitDefEqProofs := false }) only [-List.reduceReplicate, Nat.reduceBEq, renA, renL, renM, renO, evx, evs, evp, Eng.look, cst, cst1, putd, dstOk, params, loadx, partx, loI, hiI, bltx, mmI, boxx, srcx, calx, nilx, upd, del, resv, fillA, setMany, Nat.reduceLT, Nat.reduceLeDiff, Nat.reduceEqDiff, Nat.reduceAdd, Nat.reduceMul, Nat.reduceSub, reduceIte, reduceCtorEq, if_true, if_false, ite_true, ite_false, eq_self, forall_const, implies_true, Int.reduceLT, Int.reduceLE, Int.reduceToNat, Int.reduceAdd, Int.reduceSub, Int.reduceNeg, ne_eq, Int.reduceEq, Int.reduceNe, Int.reduceBEq, Int.reduceBNe, beq_self_eq_true, bne_self_eq_false, BitVec.reduceBEq, BitVec.reduceBNe, BitVec.reduceOfInt, BitVec.reduceSetWidth, wrD, engS0, engS1, engS2, engS3, engS4, engS5, engS6, engS7, engS8, engS9, engT0, engT1, engT2, Fx.t3, Fx.t4, Fx.en81, Fx.en82, Try.results65, Try.ntmps65, a1, a2, a3, a4, a5, d1, d2]
      refine Fin.flatv (fun _ => rfl) (fun f => rfl) ⟨?_, rfl, rfl⟩
      have d2' : ¬ w % 4 = 1 := by simpa using d2
      simp only [turnI, if_true]
      rw [if_neg (fun h => d2' h.2)]
  | false =>
    simp (config := { maxSteps := 1000000, implicitDefEqProofs := false }) only [-List.reduceReplicate, Nat.reduceBEq, renA, renL, renM, renO, evx, evs, evp, Eng.look, cst, cst1, putd, dstOk, params, loadx, partx, loI, hiI, bltx, mmI, boxx, srcx, calx, nilx, upd, del, resv, fillA, setMany, Nat.reduceLT, Nat.reduceLeDiff, Nat.reduceEqDiff, Nat.reduceAdd, Nat.reduceMul, Nat.reduceSub, reduceIte, reduceCtorEq, if_true, if_false, ite_true, ite_false, eq_self, forall_const, implies_true, Int.reduceLT, Int.reduceLE, Int.reduceToNat, Int.reduceAdd, Int.reduceSub, Int.reduceNeg, ne_eq, Int.reduceEq, Int.reduceNe, Int.reduceBEq, Int.reduceBNe, beq_self_eq_true, bne_self_eq_false, BitVec.reduceBEq, BitVec.reduceBNe, BitVec.reduceOfInt, BitVec.reduceSetWidth, wrD, engS0, engS1, engS2, engS3, engS4, engS5, engS6, engS7, engS8, engS9, engT0, engT1, engT2, Fx.t3, Fx.t4, Fx.en81, Fx.en82, Try.results65, Try.ntmps65, a1, a2, a3, a4, a5, d1]
    refine Fin.flatv (fun _ => rfl) (fun f => rfl) ⟨?_, rfl, rfl⟩
    have d1' : ¬ w / 67108864 = 18 := by simpa using d1
    simp only [turnI, if_true]
    rw [if_neg (fun h => d1' h.1)]
theorem turned7 (w p : Int) (back : Bool) (h1 : 0 ≤ w) (h2 : w < 4294967296) (h3 : 0 ≤ p) (h4 : p < 4294967296) :
    CallOk Try.prog 65 [.int .i64 7, .int .i64 w, .int .i64 p, .bool back] (fun _ => true) [] 0 fun v m nx => v = .int .i64 (turnI 7 w p back) ∧ m = [] ∧ nx = 0 := by
  refine fn_ok Try.func65 rfl (by show 4 ≤ _; decide) ?_
  have a1 := qd w 16777216 h1 (by omega) (by decide)
  have a4 := qm w 16777216 h1
  have a5 := qd p 4 h3 (by omega) (by decide)
  have w0 : IntKind.i64.wrap (p / 4 + 2) = p / 4 + 2 := by rw [wrap_i64] <;> omega
  obtain ⟨r1, r2⟩ := toldI_range (w % 16777216) (p / 4 + 2) 16777216 back (by decide)
  have w2 : IntKind.i64.wrap (3942645760 + toldI (w % 16777216) (p / 4 + 2) back 16777216) = 3942645760 + toldI (w % 16777216) (p / 4 + 2) back 16777216 := by rw [wrap_i64] <;> omega
  cases d1 : (w / 16777216 == 235) with
  | true =>
    simp (config := { maxSteps := 1000000, implicitDefEqProofs := false }) only [-List.reduceReplicate, Nat.reduceBEq, renA, renL, renM, renO, evx, evs, evp, Eng.look, cst, cst1, putd, dstOk, params, loadx, partx, loI, hiI, bltx, mmI, boxx, srcx, calx, nilx, upd, del, resv, fillA, setMany, Nat.reduceLT, Nat.reduceLeDiff, Nat.reduceEqDiff, Nat.reduceAdd, Nat.reduceMul, Nat.reduceSub, reduceIte, reduceCtorEq, if_true, if_false, ite_true, ite_false, eq_self, forall_const, implies_true, Int.reduceLT, Int.reduceLE, Int.reduceToNat, Int.reduceAdd, Int.reduceSub, Int.reduceNeg, ne_eq, Int.reduceEq, Int.reduceNe, Int.reduceBEq, Int.reduceBNe, beq_self_eq_true, bne_self_eq_false, BitVec.reduceBEq, BitVec.reduceBNe, BitVec.reduceOfInt, BitVec.reduceSetWidth, wrD, engS0, engS1, engS2, engS3, engS4, engS5, engS6, engS7, engS8, engS9, engT0, engT1, engT2, Fx.t3, Fx.t4, Fx.en81, Fx.en82, Try.results65, Try.ntmps65, a1, a4, a5, w0, d1]
    refine (toldOk (w % 16777216) (p / 4 + 2) 16777216 back (by omega) (by omega) (by omega) (by omega) (by decide) (by decide)).flatv (by simp only [argsx, argx_int, argx_bool, argx_fn, argx_ro, argx_nils, eq_self, true_and, and_true, and_self]; try trivial) (fun _ => rfl) rfl ?_
    simp (config := { maxSteps := 1000000, implicitDefEqProofs := false }) only [-List.reduceReplicate, Nat.reduceBEq, renA, renL, renM, renO, evx, evs, evp, Eng.look, cst, cst1, putd, dstOk, params, loadx, partx, loI, hiI, bltx, mmI, boxx, srcx, calx, nilx, upd, del, resv, fillA, setMany, Nat.reduceLT, Nat.reduceLeDiff, Nat.reduceEqDiff, Nat.reduceAdd, Nat.reduceMul, Nat.reduceSub, reduceIte, reduceCtorEq, if_true, if_false, ite_true, ite_false, eq_self, forall_const, implies_true, Int.reduceLT, Int.reduceLE, Int.reduceToNat, Int.reduceAdd, Int.reduceSub, Int.reduceNeg, ne_eq, Int.reduceEq, Int.reduceNe, Int.reduceBEq, Int.reduceBNe, beq_self_eq_true, bne_self_eq_false, BitVec.reduceBEq, BitVec.reduceBNe, BitVec.reduceOfInt, BitVec.reduceSetWidth, wrD, engS0, engS1, engS2, engS3, engS4, engS5, engS6, engS7, engS8, engS9, engT0, engT1, engT2, Fx.t3, Fx.t4, Fx.en81, Fx.en82, w2]
    refine Fin.flatv (fun _ => rfl) (fun f => rfl) ⟨?_, rfl, rfl⟩
    simp only [beq_iff_eq] at d1
    simp only [turnI, show ¬ ((7 : Int) = 5) by decide, if_false, if_true]
    rw [if_pos d1]
    rfl
  | false =>
    simp (config := { maxSteps := 1000000, implicitDefEqProofs := false }) only [-List.reduceReplicate, Nat.reduceBEq, renA, renL, renM, renO, evx, evs, evp, Eng.look, cst, cst1, putd, dstOk, params, loadx, partx, loI, hiI, bltx, mmI, boxx, srcx, calx, nilx, upd, del, resv, fillA, setMany, Nat.reduceLT, Nat.reduceLeDiff, Nat.reduceEqDiff, Nat.reduceAdd, Nat.reduceMul, Nat.reduceSub, reduceIte, reduceCtorEq, if_true, if_false, ite_true, ite_false, eq_self, forall_const, implies_true, Int.reduceLT, Int.reduceLE, Int.reduceToNat, Int.reduceAdd, Int.reduceSub, Int.reduceNeg, ne_eq, Int.reduceEq, Int.reduceNe, Int.reduceBEq, Int.reduceBNe, beq_self_eq_true, bne_self_eq_false, BitVec.reduceBEq, BitVec.reduceBNe, BitVec.reduceOfInt, BitVec.reduceSetWidth, wrD, engS0, engS1, engS2, engS3, engS4, engS5, engS6, engS7, engS8, engS9, engT0, engT1, engT2, Fx.t3, Fx.t4, Fx.en81, Fx.en82, Try.results65, Try.ntmps65, a1, d1]
    refine Fin.flatv (fun _ => rfl) (fun f => rfl) ⟨?_, rfl, rfl⟩
    have d1' : ¬ w / 16777216 = 235 := by simpa using d1
    simp only [turnI, show ¬ ((7 : Int) = 5) by decide, if_false, if_true]
    rw [if_neg d1']
theorem turned9 (w p : Int) (back : Bool) (h1 : 0 ≤ w) (h2 : w < 4294967296) (h3 : 0 ≤ p) (h4 : p < 4294967296) :
    CallOk Try.prog 65 [.int .i64 9, .int .i64 w, .int .i64 p, .bool back] (fun _ => true) [] 0 fun v m nx => v = .int .i64 (turnI 9 w p back) ∧ m = [] ∧ nx = 0 := by
  refine fn_ok Try.func65 rfl (by show 4 ≤ _; decide) ?_
  have a1 := qd w 4194304 h1 (by omega) (by decide)
  have a4 := qm w 8388608 h1
  have a5 := qd p 4 h3 (by omega) (by decide)
  obtain ⟨r1, r2⟩ := toldI_range (w % 8388608) (p / 4) 8388608 back (by decide)
  obtain ⟨r3, r4⟩ := signedI_range _ _ 1073741824 r1 r2 (by decide)
  have w2 : IntKind.i64.wrap (1073741824 + signedI (toldI (w % 8388608) (p / 4) back 8388608) 8388608 1073741824) = 1073741824 + signedI (toldI (w % 8388608) (p / 4) back 8388608) 8388608 1073741824 := by rw [wrap_i64] <;> omega
  have fin : ∀ (_ : w / 4194304 = 256 ∨ w / 4194304 = 511), (AV.int IntKind.i64 (1073741824 + signedI (toldI (w % 8388608) (p / 4) back 8388608) 8388608 1073741824)) = .int .i64 (turnI 9 w p back) := fun h => by
    simp only [turnI, show ¬ ((9 : Int) = 5) by decide, show ¬ ((9 : Int) = 7) by decide, if_false, if_true]
    rw [if_pos h]
  cases d1 : (w / 4194304 == 256) with
  | true =>
    simp (config := { maxSteps := 1000000, implicitDefEqProofs := false }) only [-List.reduceReplicate, Nat.reduceBEq, renA, renL, renM, renO, evx, evs, evp, Eng.look, cst, cst1, putd, dstOk, params, loadx, partx, loI, hiI, bltx, mmI, boxx, srcx, calx, nilx, upd, del, resv, fillA, setMany, Nat.reduceLT, Nat.reduceLeDiff, Nat.reduceEqDiff, Nat.reduceAdd, Nat.reduceMul, Nat.reduceSub, reduceIte, reduceCtorEq, if_true, if_false, ite_true, ite_false, eq_self, forall_const, implies_true, Int.reduceLT, Int.reduceLE, Int.reduceToNat, Int.reduceAdd, Int.reduceSub, Int.reduceNeg, ne_eq, Int.reduceEq, Int.reduceNe, Int.reduceBEq, Int.reduceBNe, beq_self_eq_true, bne_self_eq_false, BitVec.reduceBEq, BitVec.reduceBNe, BitVec.reduceOfInt, BitVec.reduceSetWidth, wrD, engS0, engS1, engS2, engS3, engS4, engS5, engS6, engS7, engS8, engS9, engT0, engT1, engT2, Fx.t3, Fx.t4, Fx.en81, Fx.en82, Try.results65, Try.ntmps65, a1, a4, a5, d1]
    refine (toldOk (w % 8388608) (p / 4) 8388608 back (by omega) (by omega) (by omega) (by omega) (by decide) (by decide)).flatv (by simp only [argsx, argx_int, argx_bool, argx_fn, argx_ro, argx_nils, eq_self, true_and, and_true, and_self]; try trivial) (fun _ => rfl) rfl ?_
    simp (config := { maxSteps := 1000000, implicitDefEqProofs := false }) only [-List.reduceReplicate, Nat.reduceBEq, renA, renL, renM, renO, evx, evs, evp, Eng.look, cst, cst1, putd, dstOk, params, loadx, partx, loI, hiI, bltx, mmI, boxx, srcx, calx, nilx, upd, del, resv, fillA, setMany, Nat.reduceLT, Nat.reduceLeDiff, Nat.reduceEqDiff, Nat.reduceAdd, Nat.reduceMul, Nat.reduceSub, reduceIte, reduceCtorEq, if_true, if_false, ite_true, ite_false, eq_self, forall_const, implies_true, Int.reduceLT, Int.reduceLE, Int.reduceToNat, Int.reduceAdd, Int.reduceSub, Int.reduceNeg, ne_eq, Int.reduceEq, Int.reduceNe, Int.reduceBEq, Int.reduceBNe, beq_self_eq_true, bne_self_eq_false, BitVec.reduceBEq, BitVec.reduceBNe, BitVec.reduceOfInt, BitVec.reduceSetWidth, wrD, engS0, engS1, engS2, engS3, engS4, engS5, engS6, engS7, engS8, engS9, engT0, engT1, engT2, Fx.t3, Fx.t4, Fx.en81, Fx.en82]
    refine (signedOk (toldI (w % 8388608) (p / 4) back 8388608) 8388608 1073741824 (by omega) (by omega) (by decide) (by decide) (by decide) (by decide)).flatv (by simp only [argsx, argx_int, argx_bool, argx_fn, argx_ro, argx_nils, eq_self, true_and, and_true, and_self]; try trivial) (fun _ => rfl) rfl ?_
    simp (config := { maxSteps := 1000000, implicitDefEqProofs := false }) only [-List.reduceReplicate, Nat.reduceBEq, renA, renL, renM, renO, evx, evs, evp, Eng.look, cst, cst1, putd, dstOk, params, loadx, partx, loI, hiI, bltx, mmI, boxx, srcx, calx, nilx, upd, del, resv, fillA, setMany, Nat.reduceLT, Nat.reduceLeDiff, Nat.reduceEqDiff, Nat.reduceAdd, Nat.reduceMul, Nat.reduceSub, reduceIte, reduceCtorEq, if_true, if_false, ite_true, ite_false, eq_self, forall_const, implies_true, Int.reduceLT, Int.reduceLE, Int.reduceToNat, Int.reduceAdd, Int.reduceSub, Int.reduceNeg, ne_eq, Int.reduceEq, Int.reduceNe, Int.reduceBEq, Int.reduceBNe, beq_self_eq_true, bne_self_eq_false, BitVec.reduceBEq, BitVec.reduceBNe, BitVec.reduceOfInt, BitVec.reduceSetWidth, wrD, engS0, engS1, engS2, engS3, engS4, engS5, engS6, engS7, engS8, engS9, engT0, engT1, engT2, Fx.t3, Fx.t4, Fx.en81, Fx.en82, w2]
    exact Fin.flatv (fun _ => rfl) (fun f => rfl) ⟨fin (.inl (by simpa using d1)), rfl, rfl⟩
  | false =>
    cases d2 : (w / 4194304 == 511) with
    | true =>
      simp (config := { maxSteps := 1000000, implicitDefEqProofs := false }) only [-List.reduceReplicate, Nat.reduceBEq, renA, renL, renM, renO, evx, evs, evp, Eng.look, cst, cst1, putd, dstOk, params, loadx, partx, loI, hiI, bltx, mmI, boxx, srcx, calx, nilx, upd, del, resv, fillA, setMany, Nat.reduceLT, Nat.reduceLeDiff, Nat.reduceEqDiff, Nat.reduceAdd, Nat.reduceMul, Nat.reduceSub, reduceIte, reduceCtorEq, if_true, if_false, ite_true, ite_false, eq_self, forall_const, implies_true, Int.reduceLT, Int.reduceLE, Int.reduceToNat, Int.reduceAdd, Int.reduceSub, Int.reduceNeg, ne_eq, Int.reduceEq, Int.reduceNe, Int.reduceBEq, Int.reduceBNe, beq_self_eq_true, bne_self_eq_false, BitVec.reduceBEq, BitVec.reduceBNe, BitVec.reduceOfInt, BitVec.reduceSetWidth, wrD, engS0, engS1, engS2, engS3, engS4, engS5, engS6, engS7, engS8, engS9, engT0, engT1, engT2, Fx.t3, Fx.t4, Fx.en81, Fx.en82, Try.results65, Try.ntmps65, a1, a4, a5, d1, d2]
      refine (toldOk (w % 8388608) (p / 4) 8388608 back (by omega) (by omega) (by omega) (by omega) (by decide) (by decide)).flatv (by simp only [argsx, argx_int, argx_bool, argx_fn, argx_ro, argx_nils, eq_self, true_and, and_true, and_self]; try trivial) (fun _ => rfl) rfl ?_
      simp (config := { maxSteps := 1000000, implicitDefEqProofs := false }) only [-List.reduceReplicate, Nat.reduceBEq, renA, renL, renM, renO, evx, evs, evp, Eng.look, cst, cst1, putd, dstOk, params, loadx, partx, loI, hiI, bltx, mmI, boxx, srcx, calx, nilx, upd, del, resv, fillA, setMany, Nat.reduceLT, Nat.reduceLeDiff, Nat.reduceEqDiff, Nat.reduceAdd, Nat.reduceMul, Nat.reduceSub, reduceIte, reduceCtorEq, if_true, if_false, ite_true, ite_false, eq_self, forall_const, implies_true, Int.reduceLT, Int.reduceLE, Int.reduceToNat, Int.reduceAdd, Int.reduceSub, Int.reduceNeg, ne_eq, Int.reduceEq, Int.reduceNe, Int.reduceBEq, Int.reduceBNe, beq_self_eq_true, bne_self_eq_false, BitVec.reduceBEq, BitVec.reduceBNe, BitVec.reduceOfInt, BitVec.reduceSetWidth, wrD, engS0, engS1, engS2, engS3, engS4, engS5, engS6, engS7, engS8, engS9, engT0, engT1, engT2, Fx.t3, Fx.t4, Fx.en81, Fx.en82]
      refine (signedOk (toldI (w % 8388608) (p / 4) back 8388608) 8388608 1073741824 (by omega) (by omega) (by decide) (by decide) (by decide) (by decide)).flatv (by simp only [argsx, argx_int, argx_bool, argx_fn, argx_ro, argx_nils, eq_self, true_and, and_true, and_self]; try trivial) (fun _ => rfl) rfl ?_
      simp (config := { maxSteps := 1000000, implicitDefEqProofs := false }) only [-List.reduceReplicate, Nat.reduceBEq, renA, renL, renM, renO, evx, evs, evp, Eng.look, cst, cst1, putd, dstOk, params, loadx, partx, loI, hiI, bltx, mmI, boxx, srcx, calx, nilx, upd, del, resv, fillA, setMany, Nat.reduceLT, Nat.reduceLeDiff, Nat.reduceEqDiff, Nat.reduceAdd, Nat.reduceMul, Nat.reduceSub, reduceIte, reduceCtorEq, if_true, if_false, ite_true, ite_false, eq_self, forall_const, implies_true, Int.reduceLT, Int.reduceLE, Int.reduceToNat, Int.reduceAdd, Int.reduceSub, Int.reduceNeg, ne_eq, Int.reduceEq, Int.reduceNe, Int.reduceBEq, Int.reduceBNe, beq_self_eq_true, bne_self_eq_false, BitVec.reduceBEq, BitVec.reduceBNe, BitVec.reduceOfInt, BitVec.reduceSetWidth, wrD, engS0, engS1, engS2, engS3, engS4, engS5, engS6, engS7, engS8, engS9, engT0, engT1, engT2, Fx.t3, Fx.t4, Fx.en81, Fx.en82, w2]
      exact Fin.flatv (fun _ => rfl) (fun f => rfl) ⟨fin (.inr (by simpa using d2)), rfl, rfl⟩
    | false =>
      simp (config := { maxSteps := 1000000, implicitDefEqProofs := false }) only [-List.reduceReplicate, Nat.reduceBEq, renA, renL, renM, renO, evx, evs, evp, Eng.look, cst, cst1, putd, dstOk, params, loadx, partx, loI, hiI, bltx, mmI, boxx, srcx, calx, nilx, upd, del, resv, fillA, setMany, Nat.reduceLT, Nat.reduceLeDiff, Nat.reduceEqDiff, Nat.reduceAdd, Nat.reduceMul, Nat.reduceSub, reduceIte, reduceCtorEq, if_true, if_false, ite_true, ite_false, eq_self, forall_const, implies_true, Int.reduceLT, Int.reduceLE, Int.reduceToNat, Int.reduceAdd, Int.reduceSub, Int.reduceNeg, ne_eq, Int.reduceEq, Int.reduceNe, Int.reduceBEq, Int.reduceBNe, beq_self_eq_true, bne_self_eq_false, BitVec.reduceBEq, BitVec.reduceBNe, BitVec.reduceOfInt, BitVec.reduceSetWidth, wrD, engS0, engS1, engS2, engS3, engS4, engS5, engS6, engS7, engS8, engS9, engT0, engT1, engT2, Fx.t3, Fx.t4, Fx.en81, Fx.en82, Try.results65, Try.ntmps65, a1, d1, d2]
      refine Fin.flatv (fun _ => rfl) (fun f => rfl) ⟨?_, rfl, rfl⟩
      have d1' : ¬ w / 4194304 = 256 := by simpa using d1
      have d2' : ¬ w / 4194304 = 511 := by simpa using d2
      simp only [turnI, show ¬ ((9 : Int) = 5) by decide, show ¬ ((9 : Int) = 7) by decide, if_false, if_true]
      rw [if_neg (fun h => h.elim d1' d2')]
set_option maxHeartbeats 400000 in
theorem turned10 (w p : Int) (back : Bool) (h1 : 0 ≤ w) (h2 : w < 4294967296) (h3 : 0 ≤ p) (h4 : p < 4294967296) :
    CallOk Try.prog 65 [.int .i64 10, .int .i64 w, .int .i64 p, .bool back] (fun _ => true) [] 0 fun v m nx => v = .int .i64 (turnI 10 w p back) ∧ m = [] ∧ nx = 0 := by
  refine fn_ok Try.func65 rfl (by show 4 ≤ _; decide) ?_
  have hT : turnI 10 w p back = if w / 67108864 = 37 then 67108864 * 37 + toldI (w % 67108864) (p / 4) back 67108864
      else if w / 2147483648 = 1 ∧ w / 16777216 % 32 = 16 ∧ ((w / 32 % 524288 * 4 + w / 536870912 % 4) + 131072) % 2097152 < 262144 then
        2147483648 + signedI (toldI ((w / 32 % 524288 * 4 + w / 536870912 % 4) % 262144) (p / 4096) back 262144) 262144 2097152 % 4 * 536870912 + 16 * 16777216
          + signedI (toldI ((w / 32 % 524288 * 4 + w / 536870912 % 4) % 262144) (p / 4096) back 262144) 262144 2097152 / 4 * 32 + w % 32
      else w := by
    simp only [turnI, show ¬ ((10 : Int) = 5) by decide, show ¬ ((10 : Int) = 7) by decide, show ¬ ((10 : Int) = 9) by decide, if_false]
  rw [hT]
  have a1 := qd w 67108864 h1 (by omega) (by decide)
  have a2 := qm w 67108864 h1
  have a5 := qd p 4 h3 (by omega) (by decide)
  have a6 := qd p 4096 h3 (by omega) (by decide)
  have b1 := qd w 32 h1 (by omega) (by decide)
  have b2 := qm (w / 32) 524288 (by omega)
  have b3 := qd w 536870912 h1 (by omega) (by decide)
  have b4 := qm (w / 536870912) 4 (by omega)
  have b5 := qd w 2147483648 h1 (by omega) (by decide)
  have b6 := qd w 16777216 h1 (by omega) (by decide)
  have b7 := qm (w / 16777216) 32 (by omega)
  have b8 := qm w 32 h1
  have g1 := Int.emod_nonneg (w / 32) (show (524288 : Int) ≠ 0 by decide)
  have g2 := Int.emod_lt_of_pos (w / 32) (show (0 : Int) < 524288 by decide)
  have g3 := Int.emod_nonneg (w / 536870912) (show (4 : Int) ≠ 0 by decide)
  have g4 := Int.emod_lt_of_pos (w / 536870912) (show (0 : Int) < 4 by decide)
  have g5 := Int.emod_nonneg w (show (32 : Int) ≠ 0 by decide)
  have g6 := Int.emod_lt_of_pos w (show (0 : Int) < 32 by decide)
  have v1 : IntKind.i64.wrap (w / 32 % 524288 * 4) = w / 32 % 524288 * 4 := by rw [wrap_i64] <;> omega
  have v2 : IntKind.i64.wrap (w / 32 % 524288 * 4 + w / 536870912 % 4) = w / 32 % 524288 * 4 + w / 536870912 % 4 := by rw [wrap_i64] <;> omega
  obtain ⟨k, hk⟩ : ∃ k, k = w / 32 % 524288 * 4 + w / 536870912 % 4 := ⟨_, rfl⟩
  rw [← hk] at v2 ⊢
  have v3 : IntKind.i64.wrap (k + 131072) = k + 131072 := by rw [wrap_i64] <;> omega
  have v4 := qm (k + 131072) 2097152 (by omega)
  have v5 := qm k 262144 (by omega)
  obtain ⟨r1, r2⟩ := toldI_range (w % 67108864) (p / 4) 67108864 back (by decide)
  have w2 : IntKind.i64.wrap (2483027968 + toldI (w % 67108864) (p / 4) back 67108864) = 2483027968 + toldI (w % 67108864) (p / 4) back 67108864 := by rw [wrap_i64] <;> omega
  obtain ⟨s1, s2⟩ := toldI_range (k % 262144) (p / 4096) 262144 back (by decide)
  obtain ⟨s3, s4⟩ := signedI_range _ _ 2097152 s1 s2 (by decide)
  cases d1 : (w / 67108864 == 37) with
  | true =>
    rw [if_pos (by simpa using d1)]
    simp (config := { maxSteps := 1000000, implicitDefEqProofs := false }) only [-List.reduceReplicate, Nat.reduceBEq, renA, renL, renM, renO, evx, evs, evp, Eng.look, cst, cst1, putd, dstOk, params, loadx, partx, loI, hiI, bltx, mmI, boxx, srcx, calx, nilx, upd, del, resv, fillA, setMany, Nat.reduceLT, Nat.reduceLeDiff, Nat.reduceEqDiff, Nat.reduceAdd, Nat.reduceMul, Nat.reduceSub, reduceIte, reduceCtorEq, if_true, if_false, ite_true, ite_false, eq_self, forall_const, implies_true, Int.reduceLT, Int.reduceLE, Int.reduceToNat, Int.reduceAdd, Int.reduceSub, Int.reduceNeg, ne_eq, Int.reduceEq, Int.reduceNe, Int.reduceBEq, Int.reduceBNe, beq_self_eq_true, bne_self_eq_false, BitVec.reduceBEq, BitVec.reduceBNe, BitVec.reduceOfInt, BitVec.reduceSetWidth, wrD, engS0, engS1, engS2, engS3, engS4, engS5, engS6, engS7, engS8, engS9, engT0, engT1, engT2, Fx.t3, Fx.t4, Fx.en81, Fx.en82, Try.results65, Try.ntmps65, a1, a2, a5, d1]
    refine (toldOk (w % 67108864) (p / 4) 67108864 back (by omega) (by omega) (by omega) (by omega) (by decide) (by decide)).flatv (by simp only [argsx, argx_int, argx_bool, argx_fn, argx_ro, argx_nils, eq_self, true_and, and_true, and_self]; try trivial) (fun _ => rfl) rfl ?_
    simp (config := { maxSteps := 1000000, implicitDefEqProofs := false }) only [-List.reduceReplicate, Nat.reduceBEq, renA, renL, renM, renO, evx, evs, evp, Eng.look, cst, cst1, putd, dstOk, params, loadx, partx, loI, hiI, bltx, mmI, boxx, srcx, calx, nilx, upd, del, resv, fillA, setMany, Nat.reduceLT, Nat.reduceLeDiff, Nat.reduceEqDiff, Nat.reduceAdd, Nat.reduceMul, Nat.reduceSub, reduceIte, reduceCtorEq, if_true, if_false, ite_true, ite_false, eq_self, forall_const, implies_true, Int.reduceLT, Int.reduceLE, Int.reduceToNat, Int.reduceAdd, Int.reduceSub, Int.reduceNeg, ne_eq, Int.reduceEq, Int.reduceNe, Int.reduceBEq, Int.reduceBNe, beq_self_eq_true, bne_self_eq_false, BitVec.reduceBEq, BitVec.reduceBNe, BitVec.reduceOfInt, BitVec.reduceSetWidth, wrD, engS0, engS1, engS2, engS3, engS4, engS5, engS6, engS7, engS8, engS9, engT0, engT1, engT2, Fx.t3, Fx.t4, Fx.en81, Fx.en82, w2]
    exact Fin.flatv (fun _ => rfl) (fun f => rfl) ⟨rfl, rfl, rfl⟩
  | false =>
    rw [if_neg (by simpa using d1)]
    cases d2 : (w / 2147483648 == 1) with
    | false =>
      simp (config := { maxSteps := 1000000, implicitDefEqProofs := false }) only [-List.reduceReplicate, Nat.reduceBEq, renA, renL, renM, renO, evx, evs, evp, Eng.look, cst, cst1, putd, dstOk, params, loadx, partx, loI, hiI, bltx, mmI, boxx, srcx, calx, nilx, upd, del, resv, fillA, setMany, Nat.reduceLT, Nat.reduceLeDiff, Nat.reduceEqDiff, Nat.reduceAdd, Nat.reduceMul, Nat.reduceSub, reduceIte, reduceCtorEq, if_true, if_false, ite_true, ite_false, eq_self, forall_const, implies_true, Int.reduceLT, Int.reduceLE, Int.reduceToNat, Int.reduceAdd, Int.reduceSub, Int.reduceNeg, ne_eq, Int.reduceEq, Int.reduceNe, Int.reduceBEq, Int.reduceBNe, beq_self_eq_true, bne_self_eq_false, BitVec.reduceBEq, BitVec.reduceBNe, BitVec.reduceOfInt, BitVec.reduceSetWidth, wrD, engS0, engS1, engS2, engS3, engS4, engS5, engS6, engS7, engS8, engS9, engT0, engT1, engT2, Fx.t3, Fx.t4, Fx.en81, Fx.en82, Try.results65, Try.ntmps65, a1, b1, b2, b3, b4, v1, v2, b5, d1, d2]
      refine Fin.flatv (fun _ => rfl) (fun f => rfl) ⟨?_, rfl, rfl⟩
      have d2' : ¬ w / 2147483648 = 1 := by simpa using d2
      rw [if_neg (fun h => d2' h.1)]
    | true =>
      cases d3 : (w / 16777216 % 32 == 16) with
      | false =>
        simp (config := { maxSteps := 1000000, implicitDefEqProofs := false }) only [-List.reduceReplicate, Nat.reduceBEq, renA, renL, renM, renO, evx, evs, evp, Eng.look, cst, cst1, putd, dstOk, params, loadx, partx, loI, hiI, bltx, mmI, boxx, srcx, calx, nilx, upd, del, resv, fillA, setMany, Nat.reduceLT, Nat.reduceLeDiff, Nat.reduceEqDiff, Nat.reduceAdd, Nat.reduceMul, Nat.reduceSub, reduceIte, reduceCtorEq, if_true, if_false, ite_true, ite_false, eq_self, forall_const, implies_true, Int.reduceLT, Int.reduceLE, Int.reduceToNat, Int.reduceAdd, Int.reduceSub, Int.reduceNeg, ne_eq, Int.reduceEq, Int.reduceNe, Int.reduceBEq, Int.reduceBNe, beq_self_eq_true, bne_self_eq_false, BitVec.reduceBEq, BitVec.reduceBNe, BitVec.reduceOfInt, BitVec.reduceSetWidth, wrD, engS0, engS1, engS2, engS3, engS4, engS5, engS6, engS7, engS8, engS9, engT0, engT1, engT2, Fx.t3, Fx.t4, Fx.en81, Fx.en82, Try.results65, Try.ntmps65, a1, b1, b2, b3, b4, v1, v2, b5, b6, b7, d1, d2, d3]
        refine Fin.flatv (fun _ => rfl) (fun f => rfl) ⟨?_, rfl, rfl⟩
        have d3' : ¬ w / 16777216 % 32 = 16 := by simpa using d3
        rw [if_neg (fun h => d3' h.2.1)]
      | true =>
        rcases Decidable.em ((k + 131072) % 2097152 < 262144) with d4 | d4
        · have e4 : decide ((k + 131072) % 2097152 < 262144) = true := decide_eq_true d4
          simp (config := { maxSteps := 1000000, implicitDefEqProofs := false }) only [-List.reduceReplicate, Nat.reduceBEq, renA, renL, renM, renO, evx, evs, evp, Eng.look, cst, cst1, putd, dstOk, params, loadx, partx, loI, hiI, bltx, mmI, boxx, srcx, calx, nilx, upd, del, resv, fillA, setMany, Nat.reduceLT, Nat.reduceLeDiff, Nat.reduceEqDiff, Nat.reduceAdd, Nat.reduceMul, Nat.reduceSub, reduceIte, reduceCtorEq, if_true, if_false, ite_true, ite_false, eq_self, forall_const, implies_true, Int.reduceLT, Int.reduceLE, Int.reduceToNat, Int.reduceAdd, Int.reduceSub, Int.reduceNeg, ne_eq, Int.reduceEq, Int.reduceNe, Int.reduceBEq, Int.reduceBNe, beq_self_eq_true, bne_self_eq_false, BitVec.reduceBEq, BitVec.reduceBNe, BitVec.reduceOfInt, BitVec.reduceSetWidth, wrD, engS0, engS1, engS2, engS3, engS4, engS5, engS6, engS7, engS8, engS9, engT0, engT1, engT2, Fx.t3, Fx.t4, Fx.en81, Fx.en82, Try.results65, Try.ntmps65, a1, b1, b2, b3, b4, ← hk, v1, v2, b5, b6, b7, d1, d2, d3, v3, v4, e4, v5, a6]
          refine (toldOk (k % 262144) (p / 4096) 262144 back (by omega) (by omega) (by omega) (by omega) (by decide) (by decide)).flatv (by simp only [argsx, argx_int, argx_bool, argx_fn, argx_ro, argx_nils, eq_self, true_and, and_true, and_self]; try trivial) (fun _ => rfl) rfl ?_
          simp (config := { maxSteps := 1000000, implicitDefEqProofs := false }) only [-List.reduceReplicate, Nat.reduceBEq, renA, renL, renM, renO, evx, evs, evp, Eng.look, cst, cst1, putd, dstOk, params, loadx, partx, loI, hiI, bltx, mmI, boxx, srcx, calx, nilx, upd, del, resv, fillA, setMany, Nat.reduceLT, Nat.reduceLeDiff, Nat.reduceEqDiff, Nat.reduceAdd, Nat.reduceMul, Nat.reduceSub, reduceIte, reduceCtorEq, if_true, if_false, ite_true, ite_false, eq_self, forall_const, implies_true, Int.reduceLT, Int.reduceLE, Int.reduceToNat, Int.reduceAdd, Int.reduceSub, Int.reduceNeg, ne_eq, Int.reduceEq, Int.reduceNe, Int.reduceBEq, Int.reduceBNe, beq_self_eq_true, bne_self_eq_false, BitVec.reduceBEq, BitVec.reduceBNe, BitVec.reduceOfInt, BitVec.reduceSetWidth, wrD, engS0, engS1, engS2, engS3, engS4, engS5, engS6, engS7, engS8, engS9, engT0, engT1, engT2, Fx.t3, Fx.t4, Fx.en81, Fx.en82]
          refine (signedOk (toldI (k % 262144) (p / 4096) back 262144) 262144 2097152 (by omega) (by omega) (by decide) (by decide) (by decide) (by decide)).flatv (by simp only [argsx, argx_int, argx_bool, argx_fn, argx_ro, argx_nils, eq_self, true_and, and_true, and_self]; try trivial) (fun _ => rfl) rfl ?_
          generalize signedI (toldI (k % 262144) (p / 4096) back 262144) 262144 2097152 = z at s3 s4 ⊢
          have x1 := qm z 4 (by omega)
          have x2 := qd z 4 (by omega) (by omega) (by decide)
          have x3 : IntKind.i64.wrap (z % 4 * 536870912) = z % 4 * 536870912 := by rw [wrap_i64] <;> omega
          have x4 : IntKind.i64.wrap (2147483648 + z % 4 * 536870912) = 2147483648 + z % 4 * 536870912 := by rw [wrap_i64] <;> omega
          have x5 : IntKind.i64.wrap (2147483648 + z % 4 * 536870912 + 268435456) = 2147483648 + z % 4 * 536870912 + 268435456 := by rw [wrap_i64] <;> omega
          have x6 : IntKind.i64.wrap (z / 4 * 32) = z / 4 * 32 := by rw [wrap_i64] <;> omega
          have x7 : IntKind.i64.wrap (2147483648 + z % 4 * 536870912 + 268435456 + z / 4 * 32) = 2147483648 + z % 4 * 536870912 + 268435456 + z / 4 * 32 := by rw [wrap_i64] <;> omega
          have x8 : IntKind.i64.wrap (2147483648 + z % 4 * 536870912 + 268435456 + z / 4 * 32 + w % 32) = 2147483648 + z % 4 * 536870912 + 268435456 + z / 4 * 32 + w % 32 := by rw [wrap_i64] <;> omega
          simp (config := { maxSteps := 1000000, implicitDefEqProofs := false }) only [-List.reduceReplicate, Nat.reduceBEq, renA, renL, renM, renO, evx, evs, evp, Eng.look, cst, cst1, putd, dstOk, params, loadx, partx, loI, hiI, bltx, mmI, boxx, srcx, calx, nilx, upd, del, resv, fillA, setMany, Nat.reduceLT, Nat.reduceLeDiff, Nat.reduceEqDiff, Nat.reduceAdd, Nat.reduceMul, Nat.reduceSub, reduceIte, reduceCtorEq, if_true, if_false, ite_true, ite_false, eq_self, forall_const, implies_true, Int.reduceLT, Int.reduceLE, Int.reduceToNat, Int.reduceAdd, Int.reduceSub, Int.reduceNeg, ne_eq, Int.reduceEq, Int.reduceNe, Int.reduceBEq, Int.reduceBNe, beq_self_eq_true, bne_self_eq_false, BitVec.reduceBEq, BitVec.reduceBNe, BitVec.reduceOfInt, BitVec.reduceSetWidth, wrD, engS0, engS1, engS2, engS3, engS4, engS5, engS6, engS7, engS8, engS9, engT0, engT1, engT2, Fx.t3, Fx.t4, Fx.en81, Fx.en82, x1, x2, x3, x4, x5, x6, x7, b8, x8]
          refine Fin.flatv (fun _ => rfl) (fun f => rfl) ⟨?_, rfl, rfl⟩
          rw [if_pos ⟨by simpa using d2, by simpa using d3, d4⟩]
          rfl
        · have e4 : decide ((k + 131072) % 2097152 < 262144) = false := decide_eq_false d4
          simp (config := { maxSteps := 1000000, implicitDefEqProofs := false }) only [-List.reduceReplicate, Nat.reduceBEq, renA, renL, renM, renO, evx, evs, evp, Eng.look, cst, cst1, putd, dstOk, params, loadx, partx, loI, hiI, bltx, mmI, boxx, srcx, calx, nilx, upd, del, resv, fillA, setMany, Nat.reduceLT, Nat.reduceLeDiff, Nat.reduceEqDiff, Nat.reduceAdd, Nat.reduceMul, Nat.reduceSub, reduceIte, reduceCtorEq, if_true, if_false, ite_true, ite_false, eq_self, forall_const, implies_true, Int.reduceLT, Int.reduceLE, Int.reduceToNat, Int.reduceAdd, Int.reduceSub, Int.reduceNeg, ne_eq, Int.reduceEq, Int.reduceNe, Int.reduceBEq, Int.reduceBNe, beq_self_eq_true, bne_self_eq_false, BitVec.reduceBEq, BitVec.reduceBNe, BitVec.reduceOfInt, BitVec.reduceSetWidth, wrD, engS0, engS1, engS2, engS3, engS4, engS5, engS6, engS7, engS8, engS9, engT0, engT1, engT2, Fx.t3, Fx.t4, Fx.en81, Fx.en82, Try.results65, Try.ntmps65, a1, b1, b2, b3, b4, ← hk, v1, v2, b5, b6, b7, d1, d2, d3, v3, v4, e4]
          refine Fin.flatv (fun _ => rfl) (fun f => rfl) ⟨?_, rfl, rfl⟩
          rw [if_neg (fun h => d4 h.2.2)]
theorem turnedOk (id : Int) (hid : mayId id) (w p : Int) (back : Bool) (h1 : 0 ≤ w) (h2 : w < 4294967296) (h3 : 0 ≤ p) (h4 : p < 4294967296) :
    CallOk Try.prog 65 [.int .i64 id, .int .i64 w, .int .i64 p, .bool back] (fun _ => true) [] 0 fun v m nx => v = .int .i64 (turnI id w p back) ∧ m = [] ∧ nx = 0 := by
  rcases hid with rfl | rfl | rfl | rfl
  · exact turned5 w p back h1 h2 h3 h4
  · exact turned7 w p back h1 h2 h3 h4
  · exact turned9 w p back h1 h2 h3 h4
  · exact turned10 w p back h1 h2 h3 h4
end Go.Proofs.Ytiibjaommelkkaa
