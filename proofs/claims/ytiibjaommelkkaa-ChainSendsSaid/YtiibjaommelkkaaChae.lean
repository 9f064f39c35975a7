/- The filter of bytes: what both answer. -/
import Derived.Test.YtiibjaommelkkaaEng19
import Derived.Test.YtiibjaommelkkaaEng26
import Derived.Test.YtiibjaommelkkaaChad
set_option linter.unusedVariables false
set_option linter.unusedSimpArgs false
set_option maxRecDepth 100000
namespace Go.Proofs.Ytiibjaommelkkaa
open Go Go.Eng

def rdN (id : Int) (b : List (BitVec 8)) : BitVec 32 :=
  if id = 33 then BitVec.ofNat 32 (dictN ((b.getD 0 0).toNat : Int)) else if id = 3 then (b.getD 0 0).setWidth 32 + 1#32 else if b.length = 0 then 0#32 else wordN false b 4
def rdB (id : Int) (b : List (BitVec 8)) : Bool :=
  if id = 33 then decide (b.length = 1) && (rdN id b != 0#32) else if id = 3 then decide (b.length = 1) else (decide (b.length = 0) || decide (b.length = 4)) && fitB id (rdN id b)
def rdF (id : Int) (b : List (BitVec 8)) : AV := if rdB id b = true then filA id (rdN id b) else filA 0 0#32
theorem rdN_33 (b : List (BitVec 8)) : ((rdN 33 b).toNat : Int) = (dictN ((b.getD 0 0).toNat : Int) : Int) := by
  have := dictN_lt ((b.getD 0 0).toNat : Int)
  rw [rdN, if_pos rfl, BitVec.toNat_ofNat, Nat.mod_eq_of_lt this]
theorem fits_1 (q : BitVec 8) : fitB 3 (q.setWidth 32 + 1#32) = true := by
  have := q.isLt
  rw [fitB_3, BitVec.toNat_add, BitVec.toNat_setWidth, decide_eq_true_eq]
  have : (1#32).toNat = 1 := rfl
  omega
theorem spl2 (a b c d : AV) : spl [a, b] 0 [c, d] = [c, d] := rfl
theorem tk2 (a b : AV) : List.take 2 [a, b] = [a, b] := rfl
theorem gt00 : decide ((0 : Int) > 0) = false := rfl
theorem tupA (id : Int) (n : BitVec 32) (v : AV) : AV.tup [.agg [.int .i64 id, .int .u32 (n.toNat : Int)], v] = .tup [filA id n, v] := rfl
set_option maxHeartbeats 2000000 in
theorem readOk' (id : Int) (b : List (BitVec 8)) (hb : b.length ≤ 1000000) : CallOk Try.prog 44 [.int .i64 id, .ro b.length (bvs .u8 b)] (fun _ => true) [] 0 fun v m nx => v = .tup [rdF id b, .int .i64 (if rdB id b = true then 0 else 5)] ∧ m = [] ∧ nx = 0 := by
  refine fn_ok Try.func44 rfl (by show 2 ≤ _; decide) ?_
  rcases Decidable.em (id = 33 ∧ b.length = 1) with ⟨rfl, hl⟩ | hno
  · have h33 := rdN_33 b
    have wq : IntKind.i64.wrap ((b.getD 0 0).toNat : Int) = ((b.getD 0 0).toNat : Int) := by have := (b.getD 0 0).isLt; rw [wrap_i64] <;> omega
    have hB : rdB 33 b = (rdN 33 b != 0#32) := by rw [rdB, if_pos rfl, hl]; rfl
    have hF : rdF 33 b = if (rdN 33 b != 0#32) = true then filA 33 (rdN 33 b) else filA 0 0#32 := by rw [rdF, hB]
    rw [hB, hF]
    generalize rdN 33 b = D at *
    simp (config := { maxSteps := 1000000, implicitDefEqProofs := false }) only [-List.reduceReplicate, Nat.reduceBEq, renA, renL, renM, renO, evx, evs, evp, Eng.look, cst, cst1, putd, dstOk, params, loadx, partx, loI, hiI, bltx, mmI, boxx, srcx, calx, nilx, upd, del, resv, fillA, setMany, Nat.reduceLT, Nat.reduceLeDiff, Nat.reduceEqDiff, Nat.reduceAdd, Nat.reduceMul, Nat.reduceSub, reduceIte, reduceCtorEq, if_true, if_false, ite_true, ite_false, eq_self, forall_const, implies_true, Int.reduceLT, Int.reduceLE, Int.reduceToNat, Int.reduceAdd, Int.reduceSub, Int.reduceNeg, ne_eq, Int.reduceEq, Int.reduceNe, Int.reduceBEq, Int.reduceBNe, beq_self_eq_true, bne_self_eq_false, BitVec.reduceBEq, BitVec.reduceBNe, BitVec.reduceOfInt, BitVec.reduceSetWidth, wrD, engS0, engS1, engS2, engS3, engS4, engS5, engS6, engS7, engS8, engS9, engT0, engT1, engT2, Fx.t1, Fx.t3, Fx.t4, Fx.t5, Fx.t22, Fx.t24, Fx.t34, Fx.t55, Fx.t56, Fx.en48, Fx.en73, Try.results44, Try.ntmps44, hl, spl2, tk2, gt00]
    refine (dictOk ((b.getD 0 0).toNat : Int) (by omega) (by have := (b.getD 0 0).isLt; omega)).flatv (by simp only [argsx, argx_int, argx_bool, argx_fn, argx_ro, argx_nils, eq_self, true_and, and_true, and_self]; try trivial) (fun _ => rfl) rfl ?_
    rw [← h33]
    cases g : (D == 0#32) with
    | true =>
      have g' : (D != 0#32) = false := by rw [bne, g]; rfl
      simp (config := { maxSteps := 1000000, implicitDefEqProofs := false }) only [-List.reduceReplicate, Nat.reduceBEq, renA, renL, renM, renO, evx, evs, evp, Eng.look, cst, cst1, putd, dstOk, params, loadx, partx, loI, hiI, bltx, mmI, boxx, srcx, calx, nilx, upd, del, resv, fillA, setMany, Nat.reduceLT, Nat.reduceLeDiff, Nat.reduceEqDiff, Nat.reduceAdd, Nat.reduceMul, Nat.reduceSub, reduceIte, reduceCtorEq, if_true, if_false, ite_true, ite_false, eq_self, forall_const, implies_true, Int.reduceLT, Int.reduceLE, Int.reduceToNat, Int.reduceAdd, Int.reduceSub, Int.reduceNeg, ne_eq, Int.reduceEq, Int.reduceNe, Int.reduceBEq, Int.reduceBNe, beq_self_eq_true, bne_self_eq_false, BitVec.reduceBEq, BitVec.reduceBNe, BitVec.reduceOfInt, BitVec.reduceSetWidth, wrD, engS0, engS1, engS2, engS3, engS4, engS5, engS6, engS7, engS8, engS9, engT0, engT1, engT2, Fx.t1, Fx.t3, Fx.t4, Fx.t5, Fx.t22, Fx.t24, Fx.t34, Fx.t55, Fx.t56, Fx.en48, Fx.en73, g, g', spl2, tk2, gt00]
      refine Fin.flatv (fun _ => rfl) (fun f => rfl) ?_
      exact ⟨rfl, rfl, rfl⟩
    | false =>
      have g' : (D != 0#32) = true := by rw [bne, g]; rfl
      simp (config := { maxSteps := 1000000, implicitDefEqProofs := false }) only [-List.reduceReplicate, Nat.reduceBEq, renA, renL, renM, renO, evx, evs, evp, Eng.look, cst, cst1, putd, dstOk, params, loadx, partx, loI, hiI, bltx, mmI, boxx, srcx, calx, nilx, upd, del, resv, fillA, setMany, Nat.reduceLT, Nat.reduceLeDiff, Nat.reduceEqDiff, Nat.reduceAdd, Nat.reduceMul, Nat.reduceSub, reduceIte, reduceCtorEq, if_true, if_false, ite_true, ite_false, eq_self, forall_const, implies_true, Int.reduceLT, Int.reduceLE, Int.reduceToNat, Int.reduceAdd, Int.reduceSub, Int.reduceNeg, ne_eq, Int.reduceEq, Int.reduceNe, Int.reduceBEq, Int.reduceBNe, beq_self_eq_true, bne_self_eq_false, BitVec.reduceBEq, BitVec.reduceBNe, BitVec.reduceOfInt, BitVec.reduceSetWidth, wrD, engS0, engS1, engS2, engS3, engS4, engS5, engS6, engS7, engS8, engS9, engT0, engT1, engT2, Fx.t1, Fx.t3, Fx.t4, Fx.t5, Fx.t22, Fx.t24, Fx.t34, Fx.t55, Fx.t56, Fx.en48, Fx.en73, g, g', spl2, tk2, gt00]
      refine Fin.flatv (fun _ => rfl) (fun f => rfl) ?_
      exact ⟨rfl, rfl, rfl⟩
  rcases Decidable.em (id = 3) with rfl | h3
  · rcases Decidable.em (b.length = 1) with hl | hl
    · have hN : rdN 3 b = (b.getD 0 0).setWidth 32 + 1#32 := rfl
      have hB : rdB 3 b = true := by rw [rdB, if_neg (by decide), if_pos rfl, hl]; rfl
      rw [rdF, hB, hN, if_pos rfl, if_pos rfl]
      simp (config := { maxSteps := 1000000, implicitDefEqProofs := false }) only [-List.reduceReplicate, Nat.reduceBEq, renA, renL, renM, renO, evx, evs, evp, Eng.look, cst, cst1, putd, dstOk, params, loadx, partx, loI, hiI, bltx, mmI, boxx, srcx, calx, nilx, upd, del, resv, fillA, setMany, Nat.reduceLT, Nat.reduceLeDiff, Nat.reduceEqDiff, Nat.reduceAdd, Nat.reduceMul, Nat.reduceSub, reduceIte, reduceCtorEq, if_true, if_false, ite_true, ite_false, eq_self, forall_const, implies_true, Int.reduceLT, Int.reduceLE, Int.reduceToNat, Int.reduceAdd, Int.reduceSub, Int.reduceNeg, ne_eq, Int.reduceEq, Int.reduceNe, Int.reduceBEq, Int.reduceBNe, beq_self_eq_true, bne_self_eq_false, BitVec.reduceBEq, BitVec.reduceBNe, BitVec.reduceOfInt, BitVec.reduceSetWidth, wrD, engS0, engS1, engS2, engS3, engS4, engS5, engS6, engS7, engS8, engS9, engT0, engT1, engT2, Fx.t1, Fx.t3, Fx.t4, Fx.t5, Fx.t22, Fx.t24, Fx.t34, Fx.t55, Fx.t56, Fx.en48, Fx.en73, Try.results44, Try.ntmps44, hl, spl2, tk2, gt00]
      refine (fitsOk' 3 _).flatv ⟨rfl, trivial⟩ (fun _ => rfl) rfl ?_
      rw [fits_1]
      simp (config := { maxSteps := 1000000, implicitDefEqProofs := false }) only [-List.reduceReplicate, Nat.reduceBEq, renA, renL, renM, renO, evx, evs, evp, Eng.look, cst, cst1, putd, dstOk, params, loadx, partx, loI, hiI, bltx, mmI, boxx, srcx, calx, nilx, upd, del, resv, fillA, setMany, Nat.reduceLT, Nat.reduceLeDiff, Nat.reduceEqDiff, Nat.reduceAdd, Nat.reduceMul, Nat.reduceSub, reduceIte, reduceCtorEq, if_true, if_false, ite_true, ite_false, eq_self, forall_const, implies_true, Int.reduceLT, Int.reduceLE, Int.reduceToNat, Int.reduceAdd, Int.reduceSub, Int.reduceNeg, ne_eq, Int.reduceEq, Int.reduceNe, Int.reduceBEq, Int.reduceBNe, beq_self_eq_true, bne_self_eq_false, BitVec.reduceBEq, BitVec.reduceBNe, BitVec.reduceOfInt, BitVec.reduceSetWidth, wrD, engS0, engS1, engS2, engS3, engS4, engS5, engS6, engS7, engS8, engS9, engT0, engT1, engT2, Fx.t1, Fx.t3, Fx.t4, Fx.t5, Fx.t22, Fx.t24, Fx.t34, Fx.t55, Fx.t56, Fx.en48, Fx.en73, spl2, tk2, gt00]
      refine Fin.flatv (fun _ => rfl) (fun f => rfl) ?_
      exact ⟨rfl, rfl, rfl⟩
    · have hB : rdB 3 b = false := by rw [rdB, if_neg (by decide), if_pos rfl]; exact decide_eq_false hl
      have e1 : ((b.length : Int) == 1) = false := by simp; omega
      rw [rdF, hB]
      simp (config := { maxSteps := 1000000, implicitDefEqProofs := false }) only [-List.reduceReplicate, Nat.reduceBEq, renA, renL, renM, renO, evx, evs, evp, Eng.look, cst, cst1, putd, dstOk, params, loadx, partx, loI, hiI, bltx, mmI, boxx, srcx, calx, nilx, upd, del, resv, fillA, setMany, Nat.reduceLT, Nat.reduceLeDiff, Nat.reduceEqDiff, Nat.reduceAdd, Nat.reduceMul, Nat.reduceSub, reduceIte, reduceCtorEq, if_true, if_false, ite_true, ite_false, eq_self, forall_const, implies_true, Int.reduceLT, Int.reduceLE, Int.reduceToNat, Int.reduceAdd, Int.reduceSub, Int.reduceNeg, ne_eq, Int.reduceEq, Int.reduceNe, Int.reduceBEq, Int.reduceBNe, beq_self_eq_true, bne_self_eq_false, BitVec.reduceBEq, BitVec.reduceBNe, BitVec.reduceOfInt, BitVec.reduceSetWidth, wrD, engS0, engS1, engS2, engS3, engS4, engS5, engS6, engS7, engS8, engS9, engT0, engT1, engT2, Fx.t1, Fx.t3, Fx.t4, Fx.t5, Fx.t22, Fx.t24, Fx.t34, Fx.t55, Fx.t56, Fx.en48, Fx.en73, Try.results44, Try.ntmps44, e1, spl2, tk2, gt00]
      refine Fin.flatv (fun _ => rfl) (fun f => rfl) ?_
      exact ⟨rfl, rfl, rfl⟩
  have e3 : (id == 3) = false := by simpa using h3
  have n3 : (id != 3) = true := by simpa using h3
  have hfin : ∀ (W : BitVec 32), (b.length = 0 → W = 0#32) → (b.length = 4 → W = wordN false b 4) → (b.length = 0 ∨ b.length = 4) →
      rdB id b = fitB id W ∧ (fitB id W = true → rdF id b = filA id W) ∧ (fitB id W = false → rdF id b = filA 0 0#32) := by
    intro W w0 w4 hl
    rcases Decidable.em (id = 33) with rfl | h33
    · have hB : rdB 33 b = false := by
        have hl1 : b.length ≠ 1 := fun h => hno ⟨rfl, h⟩
        rw [rdB, if_pos rfl, decide_eq_false hl1]; rfl
      rw [fitB_33, rdF, hB]
      exact ⟨rfl, fun h => (by cases h), fun _ => rfl⟩
    · have hN : rdN id b = W := by
        rw [rdN, if_neg h33, if_neg h3]
        rcases hl with hl | hl
        · rw [if_pos hl, w0 hl]
        · rw [if_neg (by omega), w4 hl]
      have hB : rdB id b = fitB id W := by
        rw [rdB, if_neg h33, if_neg h3, hN]
        rcases hl with hl | hl
        · rw [decide_eq_true hl]; rfl
        · rw [decide_eq_true hl, Bool.or_true]; rfl
      refine ⟨hB, fun h => ?_, fun h => ?_⟩
      · rw [rdF, hB, h, if_pos rfl, hN]
      · rw [rdF, hB, h]; rfl
  have hbad : ¬ (b.length = 0 ∨ b.length = 4) → rdB id b = false := by
    intro hl
    have l0 : ¬ b.length = 0 := fun h => hl (.inl h)
    have l4 : ¬ b.length = 4 := fun h => hl (.inr h)
    rw [rdB]
    split
    · rename_i h33
      rw [decide_eq_false (fun h => hno ⟨h33, h⟩)]; rfl
    · rw [ decide_eq_false l0, decide_eq_false l4]; rfl
  rcases Decidable.em (b.length = 4) with hl | hl
  · rcases Bool.eq_false_or_eq_true (id == 33) with e33 | e33
    all_goals
      simp (config := { maxSteps := 1000000, implicitDefEqProofs := false }) only [-List.reduceReplicate, Nat.reduceBEq, renA, renL, renM, renO, evx, evs, evp, Eng.look, cst, cst1, putd, dstOk, params, loadx, partx, loI, hiI, bltx, mmI, boxx, srcx, calx, nilx, upd, del, resv, fillA, setMany, Nat.reduceLT, Nat.reduceLeDiff, Nat.reduceEqDiff, Nat.reduceAdd, Nat.reduceMul, Nat.reduceSub, reduceIte, reduceCtorEq, if_true, if_false, ite_true, ite_false, eq_self, forall_const, implies_true, Int.reduceLT, Int.reduceLE, Int.reduceToNat, Int.reduceAdd, Int.reduceSub, Int.reduceNeg, ne_eq, Int.reduceEq, Int.reduceNe, Int.reduceBEq, Int.reduceBNe, beq_self_eq_true, bne_self_eq_false, BitVec.reduceBEq, BitVec.reduceBNe, BitVec.reduceOfInt, BitVec.reduceSetWidth, wrD, engS0, engS1, engS2, engS3, engS4, engS5, engS6, engS7, engS8, engS9, engT0, engT1, engT2, Fx.t1, Fx.t3, Fx.t4, Fx.t5, Fx.t22, Fx.t24, Fx.t34, Fx.t55, Fx.t56, Fx.en48, Fx.en73, Try.results44, Try.ntmps44, e33, e3, n3, hl, spl2, tk2, gt00]
      refine LoopOk.up 4 (fun k => ([(54, .int .i64 k), (53, .int .i64 4), (52, .ro 4 (bvs .u8 b)), (6, .ptr 1 0), (4, .ptr 0 0)], [(0, .cells [.int .i64 0, .int .u32 0] 56), (1, .cells [.int .i64 id, .int .u32 ((wordN false b k).toNat : Int)] 56)], 2)) (Le.sameT (by decide) (by simp only [-List.reduceReplicate, slotsSame, Eng.look, Nat.reduceEqDiff, wordN, reduceIte, reduceCtorEq, if_true, if_false, eq_self, true_and, and_true, Option.some.injEq, AV.int.injEq]; (try simp (disch := omega) only [wrap_i64]); (try simp [-List.reduceReplicate]); (try omega)) (by simp only [-List.reduceReplicate, memSame, Eng.look, Nat.reduceEqDiff, wordN, reduceIte, reduceCtorEq, if_true, if_false, eq_self, true_and, and_true, Option.some.injEq, AObj.cells.injEq, bvs_rep8, bvs_rep16, bvs_rep32, bvs_rep64, bvs_flat_rep, Nat.reduceMul, bvs_append, List.replicate_append_replicate, Nat.reduceAdd, bvs_inj]; try simp [-List.reduceReplicate]) (by simp [-List.reduceReplicate])) ?_
      intro k hk
      have wk : IntKind.i64.wrap ((k : Int) + 1) = ((k + 1 : Nat) : Int) := by rw [wrap_i64] <;> omega
      have w8 : IntKind.i64.wrap (8 * (k : Int)) = ((8 * k : Nat) : Int) := by rw [wrap_i64] <;> omega
      rcases Nat.lt_or_ge k 4 with h | h
      · have g1 : decide ((k : Int) < 4) = true := by simp; omega
        simp (config := { maxSteps := 1000000, implicitDefEqProofs := false }) only [-List.reduceReplicate, Nat.reduceBEq, renA, renL, renM, renO, evx, evs, evp, Eng.look, cst, cst1, putd, dstOk, params, loadx, partx, loI, hiI, bltx, mmI, boxx, srcx, calx, nilx, upd, del, resv, fillA, setMany, Nat.reduceLT, Nat.reduceLeDiff, Nat.reduceEqDiff, Nat.reduceAdd, Nat.reduceMul, Nat.reduceSub, reduceIte, reduceCtorEq, if_true, if_false, ite_true, ite_false, eq_self, forall_const, implies_true, Int.reduceLT, Int.reduceLE, Int.reduceToNat, Int.reduceAdd, Int.reduceSub, Int.reduceNeg, ne_eq, Int.reduceEq, Int.reduceNe, Int.reduceBEq, Int.reduceBNe, beq_self_eq_true, bne_self_eq_false, BitVec.reduceBEq, BitVec.reduceBNe, BitVec.reduceOfInt, BitVec.reduceSetWidth, wrD, engS0, engS1, engS2, engS3, engS4, engS5, engS6, engS7, engS8, engS9, engT0, engT1, engT2, Fx.t1, Fx.t3, Fx.t4, Fx.t5, Fx.t22, Fx.t24, Fx.t34, Fx.t55, Fx.t56, Fx.en48, Fx.en73, g1, wk, w8, hl, spl2, tk2, gt00]
        refine ⟨by omega, h, by rw [List.length_drop]; omega, ?_⟩
        refine ⟨Fx.mixed, .inl ⟨[(0, false), (2, false), (3, false), (4, false), (5, false), (6, false), (1, true), (7, false), (8, false), (9, true)], [1], by kernel_rfl, (fun n hn => by cases List.mem_singleton.1 hn; exact ⟨rfl, rfl⟩), ?_⟩⟩
        simp (config := { maxSteps := 1000000, implicitDefEqProofs := false }) only [-List.reduceReplicate, Nat.reduceBEq, renA, renL, renM, renO, evx, evs, evp, Eng.look, cst, cst1, putd, dstOk, params, loadx, partx, loI, hiI, bltx, mmI, boxx, srcx, calx, nilx, upd, del, resv, fillA, setMany, Nat.reduceLT, Nat.reduceLeDiff, Nat.reduceEqDiff, Nat.reduceAdd, Nat.reduceMul, Nat.reduceSub, reduceIte, reduceCtorEq, if_true, if_false, ite_true, ite_false, eq_self, forall_const, implies_true, Int.reduceLT, Int.reduceLE, Int.reduceToNat, Int.reduceAdd, Int.reduceSub, Int.reduceNeg, ne_eq, Int.reduceEq, Int.reduceNe, Int.reduceBEq, Int.reduceBNe, beq_self_eq_true, bne_self_eq_false, BitVec.reduceBEq, BitVec.reduceBNe, BitVec.reduceOfInt, BitVec.reduceSetWidth, wrD, engS0, engS1, engS2, engS3, engS4, engS5, engS6, engS7, engS8, engS9, engT0, engT1, engT2, Fx.t1, Fx.t3, Fx.t4, Fx.t5, Fx.t22, Fx.t24, Fx.t34, Fx.t55, Fx.t56, Fx.en48, Fx.en73, g1, wk, w8, hl, spl2, tk2, gt00]
        exact UpK_normal h (Le.sameT (by decide) (by simp only [-List.reduceReplicate, slotsSame, Eng.look, Nat.reduceEqDiff, wordN, shiftN, reduceIte, reduceCtorEq, if_true, if_false, eq_self, true_and, and_true, Option.some.injEq, AV.int.injEq]; (try simp (disch := omega) only [wrap_i64]); (try simp [-List.reduceReplicate]); (try omega)) (by simp only [-List.reduceReplicate, memSame, Eng.look, Nat.reduceEqDiff, wordN, shiftN, reduceIte, reduceCtorEq, if_true, if_false, eq_self, true_and, and_true, Option.some.injEq, AObj.cells.injEq, bvs_rep8, bvs_rep16, bvs_rep32, bvs_rep64, bvs_flat_rep, Nat.reduceMul, bvs_append, List.replicate_append_replicate, Nat.reduceAdd, bvs_inj]; try simp [-List.reduceReplicate]) (by simp [-List.reduceReplicate]))
      · have hk4 : k = 4 := by omega
        subst hk4
        simp (config := { maxSteps := 1000000, implicitDefEqProofs := false }) only [-List.reduceReplicate, Nat.reduceBEq, renA, renL, renM, renO, evx, evs, evp, Eng.look, cst, cst1, putd, dstOk, params, loadx, partx, loI, hiI, bltx, mmI, boxx, srcx, calx, nilx, upd, del, resv, fillA, setMany, Nat.reduceLT, Nat.reduceLeDiff, Nat.reduceEqDiff, Nat.reduceAdd, Nat.reduceMul, Nat.reduceSub, reduceIte, reduceCtorEq, if_true, if_false, ite_true, ite_false, eq_self, forall_const, implies_true, Int.reduceLT, Int.reduceLE, Int.reduceToNat, Int.reduceAdd, Int.reduceSub, Int.reduceNeg, ne_eq, Int.reduceEq, Int.reduceNe, Int.reduceBEq, Int.reduceBNe, beq_self_eq_true, bne_self_eq_false, BitVec.reduceBEq, BitVec.reduceBNe, BitVec.reduceOfInt, BitVec.reduceSetWidth, wrD, engS0, engS1, engS2, engS3, engS4, engS5, engS6, engS7, engS8, engS9, engT0, engT1, engT2, Fx.t1, Fx.t3, Fx.t4, Fx.t5, Fx.t22, Fx.t24, Fx.t34, Fx.t55, Fx.t56, Fx.en48, Fx.en73, spl2, tk2, gt00]
        obtain ⟨hB, hF1, hF2⟩ := hfin (wordN false b 4) (fun h => by omega) (fun _ => rfl) (.inr hl)
        generalize wordN false b 4 = W at *
        refine (fitsOk' id W).flatv ⟨rfl, trivial⟩ (fun _ => rfl) rfl ?_
        rw [hB]
        cases hf : fitB id W with
        | true =>
          simp (config := { maxSteps := 1000000, implicitDefEqProofs := false }) only [-List.reduceReplicate, Nat.reduceBEq, renA, renL, renM, renO, evx, evs, evp, Eng.look, cst, cst1, putd, dstOk, params, loadx, partx, loI, hiI, bltx, mmI, boxx, srcx, calx, nilx, upd, del, resv, fillA, setMany, Nat.reduceLT, Nat.reduceLeDiff, Nat.reduceEqDiff, Nat.reduceAdd, Nat.reduceMul, Nat.reduceSub, reduceIte, reduceCtorEq, if_true, if_false, ite_true, ite_false, eq_self, forall_const, implies_true, Int.reduceLT, Int.reduceLE, Int.reduceToNat, Int.reduceAdd, Int.reduceSub, Int.reduceNeg, ne_eq, Int.reduceEq, Int.reduceNe, Int.reduceBEq, Int.reduceBNe, beq_self_eq_true, bne_self_eq_false, BitVec.reduceBEq, BitVec.reduceBNe, BitVec.reduceOfInt, BitVec.reduceSetWidth, wrD, engS0, engS1, engS2, engS3, engS4, engS5, engS6, engS7, engS8, engS9, engT0, engT1, engT2, Fx.t1, Fx.t3, Fx.t4, Fx.t5, Fx.t22, Fx.t24, Fx.t34, Fx.t55, Fx.t56, Fx.en48, Fx.en73, hF1 hf, spl2, tk2, gt00]
          refine Fin.flatv (fun _ => rfl) (fun f => rfl) ?_
          exact ⟨rfl, rfl, rfl⟩
        | false =>
          simp (config := { maxSteps := 1000000, implicitDefEqProofs := false }) only [-List.reduceReplicate, Nat.reduceBEq, renA, renL, renM, renO, evx, evs, evp, Eng.look, cst, cst1, putd, dstOk, params, loadx, partx, loI, hiI, bltx, mmI, boxx, srcx, calx, nilx, upd, del, resv, fillA, setMany, Nat.reduceLT, Nat.reduceLeDiff, Nat.reduceEqDiff, Nat.reduceAdd, Nat.reduceMul, Nat.reduceSub, reduceIte, reduceCtorEq, if_true, if_false, ite_true, ite_false, eq_self, forall_const, implies_true, Int.reduceLT, Int.reduceLE, Int.reduceToNat, Int.reduceAdd, Int.reduceSub, Int.reduceNeg, ne_eq, Int.reduceEq, Int.reduceNe, Int.reduceBEq, Int.reduceBNe, beq_self_eq_true, bne_self_eq_false, BitVec.reduceBEq, BitVec.reduceBNe, BitVec.reduceOfInt, BitVec.reduceSetWidth, wrD, engS0, engS1, engS2, engS3, engS4, engS5, engS6, engS7, engS8, engS9, engT0, engT1, engT2, Fx.t1, Fx.t3, Fx.t4, Fx.t5, Fx.t22, Fx.t24, Fx.t34, Fx.t55, Fx.t56, Fx.en48, Fx.en73, hF2 hf, spl2, tk2, gt00]
          refine Fin.flatv (fun _ => rfl) (fun f => rfl) ?_
          exact ⟨rfl, rfl, rfl⟩
  have e4 : ((b.length : Int) == 4) = false := by simp; omega
  rcases Decidable.em (b.length = 0) with hl0 | hl0
  · obtain ⟨hB, hF1, hF2⟩ := hfin 0#32 (fun _ => rfl) (fun h => by omega) (.inl hl0)
    rcases Bool.eq_false_or_eq_true (id == 33) with e33 | e33
    all_goals
      simp (config := { maxSteps := 1000000, implicitDefEqProofs := false }) only [-List.reduceReplicate, Nat.reduceBEq, renA, renL, renM, renO, evx, evs, evp, Eng.look, cst, cst1, putd, dstOk, params, loadx, partx, loI, hiI, bltx, mmI, boxx, srcx, calx, nilx, upd, del, resv, fillA, setMany, Nat.reduceLT, Nat.reduceLeDiff, Nat.reduceEqDiff, Nat.reduceAdd, Nat.reduceMul, Nat.reduceSub, reduceIte, reduceCtorEq, if_true, if_false, ite_true, ite_false, eq_self, forall_const, implies_true, Int.reduceLT, Int.reduceLE, Int.reduceToNat, Int.reduceAdd, Int.reduceSub, Int.reduceNeg, ne_eq, Int.reduceEq, Int.reduceNe, Int.reduceBEq, Int.reduceBNe, beq_self_eq_true, bne_self_eq_false, BitVec.reduceBEq, BitVec.reduceBNe, BitVec.reduceOfInt, BitVec.reduceSetWidth, wrD, engS0, engS1, engS2, engS3, engS4, engS5, engS6, engS7, engS8, engS9, engT0, engT1, engT2, Fx.t1, Fx.t3, Fx.t4, Fx.t5, Fx.t22, Fx.t24, Fx.t34, Fx.t55, Fx.t56, Fx.en48, Fx.en73, Try.results44, Try.ntmps44, e33, e3, n3, hl0, spl2, tk2, gt00]
      refine (fitsOk' id 0#32).flatv ⟨rfl, trivial⟩ (fun _ => rfl) rfl ?_
      rw [hB]
      cases hf : fitB id 0#32 with
      | true =>
        simp (config := { maxSteps := 1000000, implicitDefEqProofs := false }) only [-List.reduceReplicate, Nat.reduceBEq, renA, renL, renM, renO, evx, evs, evp, Eng.look, cst, cst1, putd, dstOk, params, loadx, partx, loI, hiI, bltx, mmI, boxx, srcx, calx, nilx, upd, del, resv, fillA, setMany, Nat.reduceLT, Nat.reduceLeDiff, Nat.reduceEqDiff, Nat.reduceAdd, Nat.reduceMul, Nat.reduceSub, reduceIte, reduceCtorEq, if_true, if_false, ite_true, ite_false, eq_self, forall_const, implies_true, Int.reduceLT, Int.reduceLE, Int.reduceToNat, Int.reduceAdd, Int.reduceSub, Int.reduceNeg, ne_eq, Int.reduceEq, Int.reduceNe, Int.reduceBEq, Int.reduceBNe, beq_self_eq_true, bne_self_eq_false, BitVec.reduceBEq, BitVec.reduceBNe, BitVec.reduceOfInt, BitVec.reduceSetWidth, wrD, engS0, engS1, engS2, engS3, engS4, engS5, engS6, engS7, engS8, engS9, engT0, engT1, engT2, Fx.t1, Fx.t3, Fx.t4, Fx.t5, Fx.t22, Fx.t24, Fx.t34, Fx.t55, Fx.t56, Fx.en48, Fx.en73, hF1 hf, spl2, tk2, gt00]
        refine Fin.flatv (fun _ => rfl) (fun f => rfl) ?_
        exact ⟨rfl, rfl, rfl⟩
      | false =>
        simp (config := { maxSteps := 1000000, implicitDefEqProofs := false }) only [-List.reduceReplicate, Nat.reduceBEq, renA, renL, renM, renO, evx, evs, evp, Eng.look, cst, cst1, putd, dstOk, params, loadx, partx, loI, hiI, bltx, mmI, boxx, srcx, calx, nilx, upd, del, resv, fillA, setMany, Nat.reduceLT, Nat.reduceLeDiff, Nat.reduceEqDiff, Nat.reduceAdd, Nat.reduceMul, Nat.reduceSub, reduceIte, reduceCtorEq, if_true, if_false, ite_true, ite_false, eq_self, forall_const, implies_true, Int.reduceLT, Int.reduceLE, Int.reduceToNat, Int.reduceAdd, Int.reduceSub, Int.reduceNeg, ne_eq, Int.reduceEq, Int.reduceNe, Int.reduceBEq, Int.reduceBNe, beq_self_eq_true, bne_self_eq_false, BitVec.reduceBEq, BitVec.reduceBNe, BitVec.reduceOfInt, BitVec.reduceSetWidth, wrD, engS0, engS1, engS2, engS3, engS4, engS5, engS6, engS7, engS8, engS9, engT0, engT1, engT2, Fx.t1, Fx.t3, Fx.t4, Fx.t5, Fx.t22, Fx.t24, Fx.t34, Fx.t55, Fx.t56, Fx.en48, Fx.en73, hF2 hf, spl2, tk2, gt00]
        refine Fin.flatv (fun _ => rfl) (fun f => rfl) ?_
        exact ⟨rfl, rfl, rfl⟩
  · have hB := hbad (fun h => by omega)
    have hF : rdF id b = filA 0 0#32 := by rw [rdF, hB]; rfl
    have e0 : decide ((b.length : Int) > 0) = true := by simp; omega
    rw [hB, hF]
    rcases Bool.eq_false_or_eq_true (id == 33) with e33 | e33
    · have e1 : ((b.length : Int) == 1) = false := by
        have hx : b.length ≠ 1 := fun h => hno ⟨by simpa using e33, h⟩
        simp; omega
      simp (config := { maxSteps := 1000000, implicitDefEqProofs := false }) only [-List.reduceReplicate, Nat.reduceBEq, renA, renL, renM, renO, evx, evs, evp, Eng.look, cst, cst1, putd, dstOk, params, loadx, partx, loI, hiI, bltx, mmI, boxx, srcx, calx, nilx, upd, del, resv, fillA, setMany, Nat.reduceLT, Nat.reduceLeDiff, Nat.reduceEqDiff, Nat.reduceAdd, Nat.reduceMul, Nat.reduceSub, reduceIte, reduceCtorEq, if_true, if_false, ite_true, ite_false, eq_self, forall_const, implies_true, Int.reduceLT, Int.reduceLE, Int.reduceToNat, Int.reduceAdd, Int.reduceSub, Int.reduceNeg, ne_eq, Int.reduceEq, Int.reduceNe, Int.reduceBEq, Int.reduceBNe, beq_self_eq_true, bne_self_eq_false, BitVec.reduceBEq, BitVec.reduceBNe, BitVec.reduceOfInt, BitVec.reduceSetWidth, wrD, engS0, engS1, engS2, engS3, engS4, engS5, engS6, engS7, engS8, engS9, engT0, engT1, engT2, Fx.t1, Fx.t3, Fx.t4, Fx.t5, Fx.t22, Fx.t24, Fx.t34, Fx.t55, Fx.t56, Fx.en48, Fx.en73, Try.results44, Try.ntmps44, e33, e3, n3, e4, e0, e1, spl2, tk2, gt00]
      refine Fin.flatv (fun _ => rfl) (fun f => rfl) ?_
      exact ⟨rfl, rfl, rfl⟩
    · simp (config := { maxSteps := 1000000, implicitDefEqProofs := false }) only [-List.reduceReplicate, Nat.reduceBEq, renA, renL, renM, renO, evx, evs, evp, Eng.look, cst, cst1, putd, dstOk, params, loadx, partx, loI, hiI, bltx, mmI, boxx, srcx, calx, nilx, upd, del, resv, fillA, setMany, Nat.reduceLT, Nat.reduceLeDiff, Nat.reduceEqDiff, Nat.reduceAdd, Nat.reduceMul, Nat.reduceSub, reduceIte, reduceCtorEq, if_true, if_false, ite_true, ite_false, eq_self, forall_const, implies_true, Int.reduceLT, Int.reduceLE, Int.reduceToNat, Int.reduceAdd, Int.reduceSub, Int.reduceNeg, ne_eq, Int.reduceEq, Int.reduceNe, Int.reduceBEq, Int.reduceBNe, beq_self_eq_true, bne_self_eq_false, BitVec.reduceBEq, BitVec.reduceBNe, BitVec.reduceOfInt, BitVec.reduceSetWidth, wrD, engS0, engS1, engS2, engS3, engS4, engS5, engS6, engS7, engS8, engS9, engT0, engT1, engT2, Fx.t1, Fx.t3, Fx.t4, Fx.t5, Fx.t22, Fx.t24, Fx.t34, Fx.t55, Fx.t56, Fx.en48, Fx.en73, Try.results44, Try.ntmps44, e33, e3, n3, e4, e0, spl2, tk2, gt00]
      refine Fin.flatv (fun _ => rfl) (fun f => rfl) ?_
      exact ⟨rfl, rfl, rfl⟩
def hw (b : List (BitVec 8)) : Nat → BitVec 32
  | 0 => 0#32
  | j + 1 => 256#32 * hw b j + (b.getD (3 - j) 0).setWidth 32
theorem hw_nat (b : List (BitVec 8)) : ∀ j, j ≤ 4 → (hw b j).toNat = numN false b j
  | 0, _ => rfl
  | j + 1, h => by
    have ih := hw_nat b j (by omega)
    have h1 := numN_lt false b (j + 1)
    have h2 : 256 ^ (j + 1) ≤ 256 ^ 4 := Nat.pow_le_pow_right (by decide) h
    have h3 : 256 ^ 4 = 4294967296 := rfl
    have hx := (b.getD (3 - j) 0).isLt
    have e : numN false b (j + 1) = 256 * numN false b j + (b.getD (3 - j) 0).toNat := by rw [numN, if_neg (by decide)]
    have c : (256#32).toNat = 256 := rfl
    rw [hw, BitVec.toNat_add, BitVec.toNat_mul, BitVec.toNat_setWidth, ih, c]
    omega
theorem hw_word (b : List (BitVec 8)) : hw b 4 = wordN false b 4 := BitVec.eq_of_toNat_eq (by rw [hw_nat b 4 (Nat.le_refl _), word_num])
theorem mayOk' (id : Int) (h : id ≠ 3) (W : BitVec 32) : CallOk Try.prog 33 [.int .i64 id, .int .u32 (W.toNat : Int)] (fun _ => true) [] 0 fun v m nx => v = .bool (fitB id W) ∧ m = [] ∧ nx = 0 := by
  have := mayOk id W
  rw [fitB, if_neg h]
  exact this
set_option maxHeartbeats 2000000 in
theorem rreadOk (id : Int) (b : List (BitVec 8)) (hb : b.length ≤ 1000000) : CallOk Try.prog 45 [.int .i64 id, .ro b.length (bvs .u8 b)] (fun _ => true) [] 0 fun v m nx => v = .tup [rdF id b, .bool (rdB id b)] ∧ m = [] ∧ nx = 0 := by
  refine fn_ok Try.func45 rfl (by show 2 ≤ _; decide) ?_
  rcases Decidable.em (id = 33) with rfl | h33
  · rcases Decidable.em (b.length = 1) with hl | hl
    · have h33 := rdN_33 b
      have hlt := (b.getD 0 0).isLt
      have wq : IntKind.i64.wrap ((b.getD 0 0).toNat : Int) = ((b.getD 0 0).toNat : Int) := by rw [wrap_i64] <;> omega
      have hB : rdB 33 b = (rdN 33 b != 0#32) := by rw [rdB, if_pos rfl, hl]; rfl
      have hF : rdF 33 b = if (rdN 33 b != 0#32) = true then filA 33 (rdN 33 b) else filA 0 0#32 := by rw [rdF, hB]
      have hD : IntKind.u32.wrap (dictN ((b.getD 0 0).toNat : Int) : Int) = ((rdN 33 b).toNat : Int) := by rw [← h33, wrapself32]
      rw [hB, hF]
      generalize rdN 33 b = D at *
      simp (config := { maxSteps := 1000000, implicitDefEqProofs := false }) only [-List.reduceReplicate, Nat.reduceBEq, renA, renL, renM, renO, evx, evs, evp, Eng.look, cst, cst1, putd, dstOk, params, loadx, partx, loI, hiI, bltx, mmI, boxx, srcx, calx, nilx, upd, del, resv, fillA, setMany, Nat.reduceLT, Nat.reduceLeDiff, Nat.reduceEqDiff, Nat.reduceAdd, Nat.reduceMul, Nat.reduceSub, reduceIte, reduceCtorEq, if_true, if_false, ite_true, ite_false, eq_self, forall_const, implies_true, Int.reduceLT, Int.reduceLE, Int.reduceToNat, Int.reduceAdd, Int.reduceSub, Int.reduceNeg, ne_eq, Int.reduceEq, Int.reduceNe, Int.reduceBEq, Int.reduceBNe, beq_self_eq_true, bne_self_eq_false, BitVec.reduceBEq, BitVec.reduceBNe, BitVec.reduceOfInt, BitVec.reduceSetWidth, wrD, engS0, engS1, engS2, engS3, engS4, engS5, engS6, engS7, engS8, engS9, engT0, engT1, engT2, Fx.t1, Fx.t3, Fx.t4, Fx.t5, Fx.t22, Fx.t30, Fx.t34, Fx.t55, Fx.t56, Fx.en33, Fx.en49, Try.results45, Try.ntmps45, hl, wq, spl2, tk2]
      refine (rdictOk ((b.getD 0 0).toNat : Int) (by omega) (by omega)).flatv (by simp only [argsx, argx_int, argx_bool, argx_fn, argx_ro, argx_nils, eq_self, true_and, and_true, and_self]; try trivial) (fun _ => rfl) rfl ?_
      rw [← h33]
      cases g : (D == 0#32) with
      | true =>
        have g' : (D != 0#32) = false := by rw [bne, g]; rfl
        simp (config := { maxSteps := 1000000, implicitDefEqProofs := false }) only [-List.reduceReplicate, Nat.reduceBEq, renA, renL, renM, renO, evx, evs, evp, Eng.look, cst, cst1, putd, dstOk, params, loadx, partx, loI, hiI, bltx, mmI, boxx, srcx, calx, nilx, upd, del, resv, fillA, setMany, Nat.reduceLT, Nat.reduceLeDiff, Nat.reduceEqDiff, Nat.reduceAdd, Nat.reduceMul, Nat.reduceSub, reduceIte, reduceCtorEq, if_true, if_false, ite_true, ite_false, eq_self, forall_const, implies_true, Int.reduceLT, Int.reduceLE, Int.reduceToNat, Int.reduceAdd, Int.reduceSub, Int.reduceNeg, ne_eq, Int.reduceEq, Int.reduceNe, Int.reduceBEq, Int.reduceBNe, beq_self_eq_true, bne_self_eq_false, BitVec.reduceBEq, BitVec.reduceBNe, BitVec.reduceOfInt, BitVec.reduceSetWidth, wrD, engS0, engS1, engS2, engS3, engS4, engS5, engS6, engS7, engS8, engS9, engT0, engT1, engT2, Fx.t1, Fx.t3, Fx.t4, Fx.t5, Fx.t22, Fx.t30, Fx.t34, Fx.t55, Fx.t56, Fx.en33, Fx.en49, g, g', spl2, tk2]
        refine Fin.flatv (fun _ => rfl) (fun f => rfl) ?_
        exact ⟨rfl, rfl, rfl⟩
      | false =>
        have g' : (D != 0#32) = true := by rw [bne, g]; rfl
        simp (config := { maxSteps := 1000000, implicitDefEqProofs := false }) only [-List.reduceReplicate, Nat.reduceBEq, renA, renL, renM, renO, evx, evs, evp, Eng.look, cst, cst1, putd, dstOk, params, loadx, partx, loI, hiI, bltx, mmI, boxx, srcx, calx, nilx, upd, del, resv, fillA, setMany, Nat.reduceLT, Nat.reduceLeDiff, Nat.reduceEqDiff, Nat.reduceAdd, Nat.reduceMul, Nat.reduceSub, reduceIte, reduceCtorEq, if_true, if_false, ite_true, ite_false, eq_self, forall_const, implies_true, Int.reduceLT, Int.reduceLE, Int.reduceToNat, Int.reduceAdd, Int.reduceSub, Int.reduceNeg, ne_eq, Int.reduceEq, Int.reduceNe, Int.reduceBEq, Int.reduceBNe, beq_self_eq_true, bne_self_eq_false, BitVec.reduceBEq, BitVec.reduceBNe, BitVec.reduceOfInt, BitVec.reduceSetWidth, wrD, engS0, engS1, engS2, engS3, engS4, engS5, engS6, engS7, engS8, engS9, engT0, engT1, engT2, Fx.t1, Fx.t3, Fx.t4, Fx.t5, Fx.t22, Fx.t30, Fx.t34, Fx.t55, Fx.t56, Fx.en33, Fx.en49, g, g', spl2, tk2]
        refine Fin.flatv (fun _ => rfl) (fun f => rfl) ?_
        exact ⟨rfl, rfl, rfl⟩
    · have hB : rdB 33 b = false := by rw [rdB, if_pos rfl, decide_eq_false hl]; rfl
      have e1 : ((b.length : Int) != 1) = true := by simp; omega
      rw [rdF, hB]
      simp (config := { maxSteps := 1000000, implicitDefEqProofs := false }) only [-List.reduceReplicate, Nat.reduceBEq, renA, renL, renM, renO, evx, evs, evp, Eng.look, cst, cst1, putd, dstOk, params, loadx, partx, loI, hiI, bltx, mmI, boxx, srcx, calx, nilx, upd, del, resv, fillA, setMany, Nat.reduceLT, Nat.reduceLeDiff, Nat.reduceEqDiff, Nat.reduceAdd, Nat.reduceMul, Nat.reduceSub, reduceIte, reduceCtorEq, if_true, if_false, ite_true, ite_false, eq_self, forall_const, implies_true, Int.reduceLT, Int.reduceLE, Int.reduceToNat, Int.reduceAdd, Int.reduceSub, Int.reduceNeg, ne_eq, Int.reduceEq, Int.reduceNe, Int.reduceBEq, Int.reduceBNe, beq_self_eq_true, bne_self_eq_false, BitVec.reduceBEq, BitVec.reduceBNe, BitVec.reduceOfInt, BitVec.reduceSetWidth, wrD, engS0, engS1, engS2, engS3, engS4, engS5, engS6, engS7, engS8, engS9, engT0, engT1, engT2, Fx.t1, Fx.t3, Fx.t4, Fx.t5, Fx.t22, Fx.t30, Fx.t34, Fx.t55, Fx.t56, Fx.en33, Fx.en49, Try.results45, Try.ntmps45, e1, spl2, tk2]
      refine Fin.flatv (fun _ => rfl) (fun f => rfl) ?_
      exact ⟨rfl, rfl, rfl⟩
  have e33 : (id == 33) = false := by simpa using h33
  rcases Decidable.em (id = 3) with rfl | h3
  · rcases Decidable.em (b.length = 1) with hl | hl
    · have hN : rdN 3 b = (b.getD 0 0).setWidth 32 + 1#32 := rfl
      have hB : rdB 3 b = true := by rw [rdB, if_neg (by decide), if_pos rfl, hl]; rfl
      have g : ((b.getD 0 0).setWidth 32 + 1#32 == 0#32) = false := by
        have hx := (b.getD 0 0).isLt
        rw [beq_eq_false_iff_ne]
        intro h
        have h := congrArg BitVec.toNat h
        have c : (1#32).toNat = 1 := rfl
        have c0 : (0#32).toNat = 0 := rfl
        rw [BitVec.toNat_add, BitVec.toNat_setWidth, c, c0] at h
        omega
      rw [rdF, hB, hN, if_pos rfl]
      simp (config := { maxSteps := 1000000, implicitDefEqProofs := false }) only [-List.reduceReplicate, Nat.reduceBEq, renA, renL, renM, renO, evx, evs, evp, Eng.look, cst, cst1, putd, dstOk, params, loadx, partx, loI, hiI, bltx, mmI, boxx, srcx, calx, nilx, upd, del, resv, fillA, setMany, Nat.reduceLT, Nat.reduceLeDiff, Nat.reduceEqDiff, Nat.reduceAdd, Nat.reduceMul, Nat.reduceSub, reduceIte, reduceCtorEq, if_true, if_false, ite_true, ite_false, eq_self, forall_const, implies_true, Int.reduceLT, Int.reduceLE, Int.reduceToNat, Int.reduceAdd, Int.reduceSub, Int.reduceNeg, ne_eq, Int.reduceEq, Int.reduceNe, Int.reduceBEq, Int.reduceBNe, beq_self_eq_true, bne_self_eq_false, BitVec.reduceBEq, BitVec.reduceBNe, BitVec.reduceOfInt, BitVec.reduceSetWidth, wrD, engS0, engS1, engS2, engS3, engS4, engS5, engS6, engS7, engS8, engS9, engT0, engT1, engT2, Fx.t1, Fx.t3, Fx.t4, Fx.t5, Fx.t22, Fx.t30, Fx.t34, Fx.t55, Fx.t56, Fx.en33, Fx.en49, Try.results45, Try.ntmps45, hl, spl2, tk2, g]
      refine Fin.flatv (fun _ => rfl) (fun f => rfl) ?_
      exact ⟨rfl, rfl, rfl⟩
    · have hB : rdB 3 b = false := by rw [rdB, if_neg (by decide), if_pos rfl]; exact decide_eq_false hl
      have e1 : ((b.length : Int) != 1) = true := by simp; omega
      rw [rdF, hB]
      simp (config := { maxSteps := 1000000, implicitDefEqProofs := false }) only [-List.reduceReplicate, Nat.reduceBEq, renA, renL, renM, renO, evx, evs, evp, Eng.look, cst, cst1, putd, dstOk, params, loadx, partx, loI, hiI, bltx, mmI, boxx, srcx, calx, nilx, upd, del, resv, fillA, setMany, Nat.reduceLT, Nat.reduceLeDiff, Nat.reduceEqDiff, Nat.reduceAdd, Nat.reduceMul, Nat.reduceSub, reduceIte, reduceCtorEq, if_true, if_false, ite_true, ite_false, eq_self, forall_const, implies_true, Int.reduceLT, Int.reduceLE, Int.reduceToNat, Int.reduceAdd, Int.reduceSub, Int.reduceNeg, ne_eq, Int.reduceEq, Int.reduceNe, Int.reduceBEq, Int.reduceBNe, beq_self_eq_true, bne_self_eq_false, BitVec.reduceBEq, BitVec.reduceBNe, BitVec.reduceOfInt, BitVec.reduceSetWidth, wrD, engS0, engS1, engS2, engS3, engS4, engS5, engS6, engS7, engS8, engS9, engT0, engT1, engT2, Fx.t1, Fx.t3, Fx.t4, Fx.t5, Fx.t22, Fx.t30, Fx.t34, Fx.t55, Fx.t56, Fx.en33, Fx.en49, Try.results45, Try.ntmps45, e1, spl2, tk2]
      refine Fin.flatv (fun _ => rfl) (fun f => rfl) ?_
      exact ⟨rfl, rfl, rfl⟩
  have e3 : (id == 3) = false := by simpa using h3
  have hN : rdN id b = if b.length = 0 then 0#32 else wordN false b 4 := by rw [rdN, if_neg h33, if_neg h3]
  have hB : rdB id b = ((decide (b.length = 0) || decide (b.length = 4)) && fitB id (rdN id b)) := by rw [rdB, if_neg h33, if_neg h3]
  rcases Decidable.em (b.length = 0) with hl | hl
  · rw [if_pos hl] at hN
    rw [hN, decide_eq_true hl, Bool.true_or, Bool.true_and] at hB
    simp (config := { maxSteps := 1000000, implicitDefEqProofs := false }) only [-List.reduceReplicate, Nat.reduceBEq, renA, renL, renM, renO, evx, evs, evp, Eng.look, cst, cst1, putd, dstOk, params, loadx, partx, loI, hiI, bltx, mmI, boxx, srcx, calx, nilx, upd, del, resv, fillA, setMany, Nat.reduceLT, Nat.reduceLeDiff, Nat.reduceEqDiff, Nat.reduceAdd, Nat.reduceMul, Nat.reduceSub, reduceIte, reduceCtorEq, if_true, if_false, ite_true, ite_false, eq_self, forall_const, implies_true, Int.reduceLT, Int.reduceLE, Int.reduceToNat, Int.reduceAdd, Int.reduceSub, Int.reduceNeg, ne_eq, Int.reduceEq, Int.reduceNe, Int.reduceBEq, Int.reduceBNe, beq_self_eq_true, bne_self_eq_false, BitVec.reduceBEq, BitVec.reduceBNe, BitVec.reduceOfInt, BitVec.reduceSetWidth, wrD, engS0, engS1, engS2, engS3, engS4, engS5, engS6, engS7, engS8, engS9, engT0, engT1, engT2, Fx.t1, Fx.t3, Fx.t4, Fx.t5, Fx.t22, Fx.t30, Fx.t34, Fx.t55, Fx.t56, Fx.en33, Fx.en49, Try.results45, Try.ntmps45, e33, e3, hl, spl2, tk2]
    refine LoopOk.up 0 (fun k => ([(7, .int .i64 (-1)), (6, .ptr 1 0), (4, .ptr 0 0), (0, .int .i64 id), (1, .ro 0 (bvs .u8 b))], [(0, .cells [.int .i64 0, .int .u32 0] 56), (1, .cells [.int .i64 id, .int .u32 ((0#32).toNat : Int)] 56)], 2)) (Le.sameT (by decide) (by simp only [-List.reduceReplicate, slotsSame, Eng.look, Nat.reduceEqDiff, reduceIte, reduceCtorEq, if_true, if_false, eq_self, true_and, and_true, Option.some.injEq, AV.int.injEq]; (try simp (disch := omega) only [wrap_i64]); (try simp [-List.reduceReplicate]); (try omega)) (by simp only [-List.reduceReplicate, memSame, Eng.look, Nat.reduceEqDiff, reduceIte, reduceCtorEq, if_true, if_false, eq_self, true_and, and_true, Option.some.injEq, AObj.cells.injEq, bvs_rep8, bvs_rep16, bvs_rep32, bvs_rep64, bvs_flat_rep, Nat.reduceMul, bvs_append, List.replicate_append_replicate, Nat.reduceAdd, bvs_inj]; try simp [-List.reduceReplicate]) (by simp [-List.reduceReplicate])) ?_
    intro k hk
    have g1 : decide ((-1 : Int) ≥ 0) = false := rfl
    simp (config := { maxSteps := 1000000, implicitDefEqProofs := false }) only [-List.reduceReplicate, Nat.reduceBEq, renA, renL, renM, renO, evx, evs, evp, Eng.look, cst, cst1, putd, dstOk, params, loadx, partx, loI, hiI, bltx, mmI, boxx, srcx, calx, nilx, upd, del, resv, fillA, setMany, Nat.reduceLT, Nat.reduceLeDiff, Nat.reduceEqDiff, Nat.reduceAdd, Nat.reduceMul, Nat.reduceSub, reduceIte, reduceCtorEq, if_true, if_false, ite_true, ite_false, eq_self, forall_const, implies_true, Int.reduceLT, Int.reduceLE, Int.reduceToNat, Int.reduceAdd, Int.reduceSub, Int.reduceNeg, ne_eq, Int.reduceEq, Int.reduceNe, Int.reduceBEq, Int.reduceBNe, beq_self_eq_true, bne_self_eq_false, BitVec.reduceBEq, BitVec.reduceBNe, BitVec.reduceOfInt, BitVec.reduceSetWidth, wrD, engS0, engS1, engS2, engS3, engS4, engS5, engS6, engS7, engS8, engS9, engT0, engT1, engT2, Fx.t1, Fx.t3, Fx.t4, Fx.t5, Fx.t22, Fx.t30, Fx.t34, Fx.t55, Fx.t56, Fx.en33, Fx.en49, g1, hl]
    refine (mayOk' id h3 0#32).flatv ⟨rfl, rfl, trivial⟩ (fun _ => rfl) rfl ?_
    rw [rdF, hN, hB]
    cases hf : fitB id 0#32 with
    | true =>
      simp (config := { maxSteps := 1000000, implicitDefEqProofs := false }) only [-List.reduceReplicate, Nat.reduceBEq, renA, renL, renM, renO, evx, evs, evp, Eng.look, cst, cst1, putd, dstOk, params, loadx, partx, loI, hiI, bltx, mmI, boxx, srcx, calx, nilx, upd, del, resv, fillA, setMany, Nat.reduceLT, Nat.reduceLeDiff, Nat.reduceEqDiff, Nat.reduceAdd, Nat.reduceMul, Nat.reduceSub, reduceIte, reduceCtorEq, if_true, if_false, ite_true, ite_false, eq_self, forall_const, implies_true, Int.reduceLT, Int.reduceLE, Int.reduceToNat, Int.reduceAdd, Int.reduceSub, Int.reduceNeg, ne_eq, Int.reduceEq, Int.reduceNe, Int.reduceBEq, Int.reduceBNe, beq_self_eq_true, bne_self_eq_false, BitVec.reduceBEq, BitVec.reduceBNe, BitVec.reduceOfInt, BitVec.reduceSetWidth, wrD, engS0, engS1, engS2, engS3, engS4, engS5, engS6, engS7, engS8, engS9, engT0, engT1, engT2, Fx.t1, Fx.t3, Fx.t4, Fx.t5, Fx.t22, Fx.t30, Fx.t34, Fx.t55, Fx.t56, Fx.en33, Fx.en49, spl2, tk2]
      refine Fin.flatv (fun _ => rfl) (fun f => rfl) ?_
      exact ⟨rfl, rfl, rfl⟩
    | false =>
      simp (config := { maxSteps := 1000000, implicitDefEqProofs := false }) only [-List.reduceReplicate, Nat.reduceBEq, renA, renL, renM, renO, evx, evs, evp, Eng.look, cst, cst1, putd, dstOk, params, loadx, partx, loI, hiI, bltx, mmI, boxx, srcx, calx, nilx, upd, del, resv, fillA, setMany, Nat.reduceLT, Nat.reduceLeDiff, Nat.reduceEqDiff, Nat.reduceAdd, Nat.reduceMul, Nat.reduceSub, reduceIte, reduceCtorEq, if_true, if_false, ite_true, ite_false, eq_self, forall_const, implies_true, Int.reduceLT, Int.reduceLE, Int.reduceToNat, Int.reduceAdd, Int.reduceSub, Int.reduceNeg, ne_eq, Int.reduceEq, Int.reduceNe, Int.reduceBEq, Int.reduceBNe, beq_self_eq_true, bne_self_eq_false, BitVec.reduceBEq, BitVec.reduceBNe, BitVec.reduceOfInt, BitVec.reduceSetWidth, wrD, engS0, engS1, engS2, engS3, engS4, engS5, engS6, engS7, engS8, engS9, engT0, engT1, engT2, Fx.t1, Fx.t3, Fx.t4, Fx.t5, Fx.t22, Fx.t30, Fx.t34, Fx.t55, Fx.t56, Fx.en33, Fx.en49, spl2, tk2]
      refine Fin.flatv (fun _ => rfl) (fun f => rfl) ?_
      exact ⟨rfl, rfl, rfl⟩
  have n0 : ((b.length : Int) != 0) = true := by rw [bne_iff_ne]; omega
  rcases Decidable.em (b.length = 4) with h4 | h4
  · rw [if_neg hl] at hN
    rw [hN, decide_eq_true h4, Bool.or_true, Bool.true_and, ← hw_word] at hB
    rw [← hw_word] at hN
    simp (config := { maxSteps := 1000000, implicitDefEqProofs := false }) only [-List.reduceReplicate, Nat.reduceBEq, renA, renL, renM, renO, evx, evs, evp, Eng.look, cst, cst1, putd, dstOk, params, loadx, partx, loI, hiI, bltx, mmI, boxx, srcx, calx, nilx, upd, del, resv, fillA, setMany, Nat.reduceLT, Nat.reduceLeDiff, Nat.reduceEqDiff, Nat.reduceAdd, Nat.reduceMul, Nat.reduceSub, reduceIte, reduceCtorEq, if_true, if_false, ite_true, ite_false, eq_self, forall_const, implies_true, Int.reduceLT, Int.reduceLE, Int.reduceToNat, Int.reduceAdd, Int.reduceSub, Int.reduceNeg, ne_eq, Int.reduceEq, Int.reduceNe, Int.reduceBEq, Int.reduceBNe, beq_self_eq_true, bne_self_eq_false, BitVec.reduceBEq, BitVec.reduceBNe, BitVec.reduceOfInt, BitVec.reduceSetWidth, wrD, engS0, engS1, engS2, engS3, engS4, engS5, engS6, engS7, engS8, engS9, engT0, engT1, engT2, Fx.t1, Fx.t3, Fx.t4, Fx.t5, Fx.t22, Fx.t30, Fx.t34, Fx.t55, Fx.t56, Fx.en33, Fx.en49, Try.results45, Try.ntmps45, e33, e3, h4, spl2, tk2]
    refine LoopOk.up 4 (fun k => ([(7, .int .i64 (3 - (k : Int))), (6, .ptr 1 0), (4, .ptr 0 0), (0, .int .i64 id), (1, .ro 4 (bvs .u8 b))], [(0, .cells [.int .i64 0, .int .u32 0] 56), (1, .cells [.int .i64 id, .int .u32 ((hw b k).toNat : Int)] 56)], 2)) (Le.sameT (by decide) (by simp only [-List.reduceReplicate, slotsSame, Eng.look, Nat.reduceEqDiff, hw, reduceIte, reduceCtorEq, if_true, if_false, eq_self, true_and, and_true, Option.some.injEq, AV.int.injEq]; (try simp (disch := omega) only [wrap_i64]); (try simp [-List.reduceReplicate]); (try omega)) (by simp only [-List.reduceReplicate, memSame, Eng.look, Nat.reduceEqDiff, hw, reduceIte, reduceCtorEq, if_true, if_false, eq_self, true_and, and_true, Option.some.injEq, AObj.cells.injEq, bvs_rep8, bvs_rep16, bvs_rep32, bvs_rep64, bvs_flat_rep, Nat.reduceMul, bvs_append, List.replicate_append_replicate, Nat.reduceAdd, bvs_inj]; try simp [-List.reduceReplicate]) (by simp [-List.reduceReplicate])) ?_
    intro k hk
    have wk : IntKind.i64.wrap (3 - (k : Int) - 1) = 3 - ((k + 1 : Nat) : Int) := by rw [wrap_i64] <;> omega
    rcases Nat.lt_or_ge k 4 with h | h
    · have g1 : decide (3 - (k : Int) ≥ 0) = true := by simp; omega
      have tk : (3 - (k : Int)) = ((3 - k : Nat) : Int) := by omega
      rw [tk] at g1 wk
      simp (config := { maxSteps := 1000000, implicitDefEqProofs := false }) only [-List.reduceReplicate, Nat.reduceBEq, renA, renL, renM, renO, evx, evs, evp, Eng.look, cst, cst1, putd, dstOk, params, loadx, partx, loI, hiI, bltx, mmI, boxx, srcx, calx, nilx, upd, del, resv, fillA, setMany, Nat.reduceLT, Nat.reduceLeDiff, Nat.reduceEqDiff, Nat.reduceAdd, Nat.reduceMul, Nat.reduceSub, reduceIte, reduceCtorEq, if_true, if_false, ite_true, ite_false, eq_self, forall_const, implies_true, Int.reduceLT, Int.reduceLE, Int.reduceToNat, Int.reduceAdd, Int.reduceSub, Int.reduceNeg, ne_eq, Int.reduceEq, Int.reduceNe, Int.reduceBEq, Int.reduceBNe, beq_self_eq_true, bne_self_eq_false, BitVec.reduceBEq, BitVec.reduceBNe, BitVec.reduceOfInt, BitVec.reduceSetWidth, wrD, engS0, engS1, engS2, engS3, engS4, engS5, engS6, engS7, engS8, engS9, engT0, engT1, engT2, Fx.t1, Fx.t3, Fx.t4, Fx.t5, Fx.t22, Fx.t30, Fx.t34, Fx.t55, Fx.t56, Fx.en33, Fx.en49, tk, g1, wk, h4, spl2, tk2]
      refine ⟨Fx.mixed, .inl ⟨[(0, false), (3, false), (4, false), (5, false), (6, false), (7, false), (1, true), (2, false), (8, false), (9, false), (10, true)], [1], by kernel_rfl, (fun n hn => by cases List.mem_singleton.1 hn; exact ⟨rfl, rfl⟩), ?_⟩⟩
      simp (config := { maxSteps := 1000000, implicitDefEqProofs := false }) only [-List.reduceReplicate, Nat.reduceBEq, renA, renL, renM, renO, evx, evs, evp, Eng.look, cst, cst1, putd, dstOk, params, loadx, partx, loI, hiI, bltx, mmI, boxx, srcx, calx, nilx, upd, del, resv, fillA, setMany, Nat.reduceLT, Nat.reduceLeDiff, Nat.reduceEqDiff, Nat.reduceAdd, Nat.reduceMul, Nat.reduceSub, reduceIte, reduceCtorEq, if_true, if_false, ite_true, ite_false, eq_self, forall_const, implies_true, Int.reduceLT, Int.reduceLE, Int.reduceToNat, Int.reduceAdd, Int.reduceSub, Int.reduceNeg, ne_eq, Int.reduceEq, Int.reduceNe, Int.reduceBEq, Int.reduceBNe, beq_self_eq_true, bne_self_eq_false, BitVec.reduceBEq, BitVec.reduceBNe, BitVec.reduceOfInt, BitVec.reduceSetWidth, wrD, engS0, engS1, engS2, engS3, engS4, engS5, engS6, engS7, engS8, engS9, engT0, engT1, engT2, Fx.t1, Fx.t3, Fx.t4, Fx.t5, Fx.t22, Fx.t30, Fx.t34, Fx.t55, Fx.t56, Fx.en33, Fx.en49, tk, g1, wk, h4, spl2, tk2]
      refine ⟨by omega, by omega, by rw [List.length_drop]; omega, ?_⟩
      exact UpK_normal h (Le.sameT (by decide) (by simp only [-List.reduceReplicate, slotsSame, Eng.look, Nat.reduceEqDiff, hw, reduceIte, reduceCtorEq, if_true, if_false, eq_self, true_and, and_true, Option.some.injEq, AV.int.injEq]; (try simp (disch := omega) only [wrap_i64]); (try simp [-List.reduceReplicate]); (try omega)) (by simp only [-List.reduceReplicate, memSame, Eng.look, Nat.reduceEqDiff, hw, reduceIte, reduceCtorEq, if_true, if_false, eq_self, true_and, and_true, Option.some.injEq, AObj.cells.injEq, bvs_rep8, bvs_rep16, bvs_rep32, bvs_rep64, bvs_flat_rep, Nat.reduceMul, bvs_append, List.replicate_append_replicate, Nat.reduceAdd, bvs_inj]; try simp [-List.reduceReplicate]) (by simp [-List.reduceReplicate]))
    · have hk4 : k = 4 := by omega
      subst hk4
      have g1 : decide ((3 - ((4 : Nat) : Int)) ≥ 0) = false := rfl
      have g2 : decide ((-1 : Int) ≥ 0) = false := rfl
      simp (config := { maxSteps := 1000000, implicitDefEqProofs := false }) only [-List.reduceReplicate, Nat.reduceBEq, renA, renL, renM, renO, evx, evs, evp, Eng.look, cst, cst1, putd, dstOk, params, loadx, partx, loI, hiI, bltx, mmI, boxx, srcx, calx, nilx, upd, del, resv, fillA, setMany, Nat.reduceLT, Nat.reduceLeDiff, Nat.reduceEqDiff, Nat.reduceAdd, Nat.reduceMul, Nat.reduceSub, reduceIte, reduceCtorEq, if_true, if_false, ite_true, ite_false, eq_self, forall_const, implies_true, Int.reduceLT, Int.reduceLE, Int.reduceToNat, Int.reduceAdd, Int.reduceSub, Int.reduceNeg, ne_eq, Int.reduceEq, Int.reduceNe, Int.reduceBEq, Int.reduceBNe, beq_self_eq_true, bne_self_eq_false, BitVec.reduceBEq, BitVec.reduceBNe, BitVec.reduceOfInt, BitVec.reduceSetWidth, wrD, engS0, engS1, engS2, engS3, engS4, engS5, engS6, engS7, engS8, engS9, engT0, engT1, engT2, Fx.t1, Fx.t3, Fx.t4, Fx.t5, Fx.t22, Fx.t30, Fx.t34, Fx.t55, Fx.t56, Fx.en33, Fx.en49, g1, g2, h4]
      rw [rdF, hN, hB]
      generalize hw b 4 = W at *
      refine (mayOk' id h3 W).flatv ⟨rfl, rfl, trivial⟩ (fun _ => rfl) rfl ?_
      cases hf : fitB id W with
      | true =>
        simp (config := { maxSteps := 1000000, implicitDefEqProofs := false }) only [-List.reduceReplicate, Nat.reduceBEq, renA, renL, renM, renO, evx, evs, evp, Eng.look, cst, cst1, putd, dstOk, params, loadx, partx, loI, hiI, bltx, mmI, boxx, srcx, calx, nilx, upd, del, resv, fillA, setMany, Nat.reduceLT, Nat.reduceLeDiff, Nat.reduceEqDiff, Nat.reduceAdd, Nat.reduceMul, Nat.reduceSub, reduceIte, reduceCtorEq, if_true, if_false, ite_true, ite_false, eq_self, forall_const, implies_true, Int.reduceLT, Int.reduceLE, Int.reduceToNat, Int.reduceAdd, Int.reduceSub, Int.reduceNeg, ne_eq, Int.reduceEq, Int.reduceNe, Int.reduceBEq, Int.reduceBNe, beq_self_eq_true, bne_self_eq_false, BitVec.reduceBEq, BitVec.reduceBNe, BitVec.reduceOfInt, BitVec.reduceSetWidth, wrD, engS0, engS1, engS2, engS3, engS4, engS5, engS6, engS7, engS8, engS9, engT0, engT1, engT2, Fx.t1, Fx.t3, Fx.t4, Fx.t5, Fx.t22, Fx.t30, Fx.t34, Fx.t55, Fx.t56, Fx.en33, Fx.en49, spl2, tk2]
        refine Fin.flatv (fun _ => rfl) (fun f => rfl) ?_
        exact ⟨rfl, rfl, rfl⟩
      | false =>
        simp (config := { maxSteps := 1000000, implicitDefEqProofs := false }) only [-List.reduceReplicate, Nat.reduceBEq, renA, renL, renM, renO, evx, evs, evp, Eng.look, cst, cst1, putd, dstOk, params, loadx, partx, loI, hiI, bltx, mmI, boxx, srcx, calx, nilx, upd, del, resv, fillA, setMany, Nat.reduceLT, Nat.reduceLeDiff, Nat.reduceEqDiff, Nat.reduceAdd, Nat.reduceMul, Nat.reduceSub, reduceIte, reduceCtorEq, if_true, if_false, ite_true, ite_false, eq_self, forall_const, implies_true, Int.reduceLT, Int.reduceLE, Int.reduceToNat, Int.reduceAdd, Int.reduceSub, Int.reduceNeg, ne_eq, Int.reduceEq, Int.reduceNe, Int.reduceBEq, Int.reduceBNe, beq_self_eq_true, bne_self_eq_false, BitVec.reduceBEq, BitVec.reduceBNe, BitVec.reduceOfInt, BitVec.reduceSetWidth, wrD, engS0, engS1, engS2, engS3, engS4, engS5, engS6, engS7, engS8, engS9, engT0, engT1, engT2, Fx.t1, Fx.t3, Fx.t4, Fx.t5, Fx.t22, Fx.t30, Fx.t34, Fx.t55, Fx.t56, Fx.en33, Fx.en49, spl2, tk2]
        refine Fin.flatv (fun _ => rfl) (fun f => rfl) ?_
        exact ⟨rfl, rfl, rfl⟩
  have n4 : ((b.length : Int) != 4) = true := by simp; omega
  rw [decide_eq_false hl, decide_eq_false h4, Bool.or_self, Bool.false_and] at hB
  rw [rdF, hB]
  simp (config := { maxSteps := 1000000, implicitDefEqProofs := false }) only [-List.reduceReplicate, Nat.reduceBEq, renA, renL, renM, renO, evx, evs, evp, Eng.look, cst, cst1, putd, dstOk, params, loadx, partx, loI, hiI, bltx, mmI, boxx, srcx, calx, nilx, upd, del, resv, fillA, setMany, Nat.reduceLT, Nat.reduceLeDiff, Nat.reduceEqDiff, Nat.reduceAdd, Nat.reduceMul, Nat.reduceSub, reduceIte, reduceCtorEq, if_true, if_false, ite_true, ite_false, eq_self, forall_const, implies_true, Int.reduceLT, Int.reduceLE, Int.reduceToNat, Int.reduceAdd, Int.reduceSub, Int.reduceNeg, ne_eq, Int.reduceEq, Int.reduceNe, Int.reduceBEq, Int.reduceBNe, beq_self_eq_true, bne_self_eq_false, BitVec.reduceBEq, BitVec.reduceBNe, BitVec.reduceOfInt, BitVec.reduceSetWidth, wrD, engS0, engS1, engS2, engS3, engS4, engS5, engS6, engS7, engS8, engS9, engT0, engT1, engT2, Fx.t1, Fx.t3, Fx.t4, Fx.t5, Fx.t22, Fx.t30, Fx.t34, Fx.t55, Fx.t56, Fx.en33, Fx.en49, Try.results45, Try.ntmps45, e33, e3, n0, n4, spl2, tk2]
  refine Fin.flatv (fun _ => rfl) (fun f => rfl) ?_
  exact ⟨rfl, rfl, rfl⟩
end Go.Proofs.Ytiibjaommelkkaa
