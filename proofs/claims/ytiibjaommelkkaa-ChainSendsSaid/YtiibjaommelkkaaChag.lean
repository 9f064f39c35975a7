/- May a chain be? What bytes become through a chain, and back. -/
import Derived.Test.YtiibjaommelkkaaEng19
import Derived.Test.YtiibjaommelkkaaEng26
import Derived.Test.YtiibjaommelkkaaChac
set_option linter.unusedVariables false
set_option linter.unusedSimpArgs false
set_option maxRecDepth 100000
namespace Go.Proofs.Ytiibjaommelkkaa
open Go Go.Eng

abbrev Fil := (Int) × (BitVec 32) × Unit
def filC (p : Fil) : List AV := [.int .i64 p.1, .int .u32 (p.2.1.toNat : Int)]
def filR (L : List Fil) : AV := .ro L.length (L.flatMap filC)
def filD : Fil := (0, 0#32, ())
def fitP (p : Fil) : Bool := fitB p.1 p.2.1
theorem filR_drop (L : List Fil) : ∀ i, (L.flatMap filC).drop (i * 2) = (L.drop i).flatMap filC := by
  induction L with
  | nil => intro i; simp
  | cons p r ih =>
    intro i
    cases i with
    | zero => rfl
    | succ i =>
      have := ih i
      rw [List.flatMap_cons, List.drop_succ_cons, ← this, show (i + 1) * 2 = 2 + i * 2 by omega]
      show ([_, _] ++ r.flatMap filC).drop _ = _
      rw [List.drop_append]
      simp [Nat.add_sub_cancel_left, List.drop_eq_nil_of_le]
theorem filR_take {L : List Fil} {i : Nat} (h : i < L.length) : ((L.flatMap filC).drop (i * 2)).take 2 = filC (L.getD i filD) := by
  rw [filR_drop, List.drop_eq_getElem_cons h, List.flatMap_cons, List.getD_eq_getElem?_getD, List.getElem?_eq_getElem h]
  rfl
theorem filR_len (L : List Fil) : (L.flatMap filC).length = L.length * 2 := by
  induction L with
  | nil => rfl
  | cons p r ih => rw [List.flatMap_cons, List.length_append, ih, List.length_cons]; show 2 + _ = _; omega
theorem filC_ren (f : Nat → Nat) (L : List Fil) : renL f (L.flatMap filC) = L.flatMap filC := by
  induction L with
  | nil => rfl
  | cons p r ih => rw [List.flatMap_cons, renL_append, ih]; rfl
theorem filR_ren (f : Nat → Nat) (L : List Fil) : renA f (filR L) = filR L := by simp only [filR, renA, filC_ren]
theorem bad_get {L : List Fil} {i : Nat} (h : i < L.length) (x : Bool) : (!(fitP (L.getD i filD))) = x ↔ (!(fitP L[i])) = x := by
  rw [List.getD_eq_getElem?_getD, List.getElem?_eq_getElem h]; rfl
def badI (L : List Fil) : Nat := L.findIdx fun p => !(fitP p)
theorem badI_le (L : List Fil) : badI L ≤ L.length := List.findIdx_le_length
theorem badI_lt {L : List Fil} {i : Nat} (h : i < badI L) : fitP (L.getD i filD) = true := by
  have hl := badI_le L
  have h2 : i < L.length := by omega
  have := List.not_of_lt_findIdx h
  rw [List.getD_eq_getElem?_getD, List.getElem?_eq_getElem h2]
  simpa using this
theorem badI_at {L : List Fil} (h : badI L < L.length) : fitP (L.getD (badI L) filD) = false := by
  have this : (!(fitP L[badI L])) = true := List.findIdx_getElem (w := h)
  rw [List.getD_eq_getElem?_getD, List.getElem?_eq_getElem h]
  simpa using this
theorem badI_all (L : List Fil) : L.all fitP = decide (badI L = L.length) := by
  have h : (L.all fitP = true) ↔ badI L = L.length := by
    rw [List.all_eq_true]
    constructor
    · intro h
      rcases Nat.lt_or_ge (badI L) L.length with g | g
      · have := badI_at g
        have hm : L.getD (badI L) filD ∈ L := by rw [List.getD_eq_getElem?_getD, List.getElem?_eq_getElem g]; exact List.getElem_mem g
        rw [h _ hm] at this; cases this
      · exact Nat.le_antisymm (badI_le L) g
    · intro h x hx
      obtain ⟨i, hi, rfl⟩ := List.mem_iff_getElem.1 hx
      have := badI_lt (L := L) (i := i) (by omega)
      rwa [List.getD_eq_getElem?_getD, List.getElem?_eq_getElem hi] at this
  exact Bool.eq_iff_iff.2 (by rw [decide_eq_true_eq]; exact h)
def mayB (L : List Fil) : Bool := decide (L.length ≤ 3) && L.all fitP
theorem may1Ok (p : Fil) : CallOk Try.prog 77 [.agg (filC p)] (fun _ => true) [] 0 fun v m nx => v = .bool (!(fitP p)) ∧ m = [] ∧ nx = 0 := by
  refine fn_ok Try.func77 rfl (by show 1 ≤ _; decide) ?_
  simp (config := { maxSteps := 1000000, implicitDefEqProofs := false }) only [-List.reduceReplicate, Nat.reduceBEq, renA, renL, renM, renO, evx, evs, evp, Eng.look, cst, cst1, putd, dstOk, params, loadx, partx, loI, hiI, bltx, mmI, boxx, srcx, calx, nilx, upd, del, resv, fillA, setMany, Nat.reduceLT, Nat.reduceLeDiff, Nat.reduceEqDiff, Nat.reduceAdd, Nat.reduceMul, Nat.reduceSub, reduceIte, reduceCtorEq, if_true, if_false, ite_true, ite_false, eq_self, forall_const, implies_true, Int.reduceLT, Int.reduceLE, Int.reduceToNat, Int.reduceAdd, Int.reduceSub, Int.reduceNeg, ne_eq, Int.reduceEq, Int.reduceNe, Int.reduceBEq, Int.reduceBNe, beq_self_eq_true, bne_self_eq_false, BitVec.reduceBEq, BitVec.reduceBNe, BitVec.reduceOfInt, BitVec.reduceSetWidth, wrD, engS0, engS1, engS2, engS3, engS4, engS5, engS6, engS7, engS8, engS9, engT0, engT1, engT2, Fx.t3, Fx.t4, Fx.t34, Fx.t55, Fx.t56, Fx.en73, Try.results77, Try.ntmps77, filC]
  refine (fitsOk' p.1 p.2.1).flatv ⟨rfl, trivial⟩ (fun _ => rfl) rfl ?_
  simp (config := { maxSteps := 1000000, implicitDefEqProofs := false }) only [-List.reduceReplicate, Nat.reduceBEq, renA, renL, renM, renO, evx, evs, evp, Eng.look, cst, cst1, putd, dstOk, params, loadx, partx, loI, hiI, bltx, mmI, boxx, srcx, calx, nilx, upd, del, resv, fillA, setMany, Nat.reduceLT, Nat.reduceLeDiff, Nat.reduceEqDiff, Nat.reduceAdd, Nat.reduceMul, Nat.reduceSub, reduceIte, reduceCtorEq, if_true, if_false, ite_true, ite_false, eq_self, forall_const, implies_true, Int.reduceLT, Int.reduceLE, Int.reduceToNat, Int.reduceAdd, Int.reduceSub, Int.reduceNeg, ne_eq, Int.reduceEq, Int.reduceNe, Int.reduceBEq, Int.reduceBNe, beq_self_eq_true, bne_self_eq_false, BitVec.reduceBEq, BitVec.reduceBNe, BitVec.reduceOfInt, BitVec.reduceSetWidth, wrD, engS0, engS1, engS2, engS3, engS4, engS5, engS6, engS7, engS8, engS9, engT0, engT1, engT2, Fx.t3, Fx.t4, Fx.t34, Fx.t55, Fx.t56, Fx.en73]
  exact Fin.flatv (fun _ => rfl) (fun f => rfl) ⟨rfl, rfl, rfl⟩
theorem indexOk (L : List Fil) (hL : L.length ≤ maxLen) : CallOk Try.prog 91 [filR L, .fn (.func 77) [] []] (fun _ => true) [] 0
    fun v m nx => v = .int .i64 (if badI L < L.length then (badI L : Int) else -1) ∧ m = [] ∧ nx = 0 := by
  refine fn_ok Try.func91 rfl (by show 2 ≤ _; decide) ?_
  have hle := badI_le L
  have hm : maxLen ≤ 9223372036854775807 := by decide
  simp (config := { maxSteps := 1000000, implicitDefEqProofs := false }) only [-List.reduceReplicate, Nat.reduceBEq, renA, renL, renM, renO, evx, evs, evp, Eng.look, cst, cst1, putd, dstOk, params, loadx, partx, loI, hiI, bltx, mmI, boxx, srcx, calx, nilx, upd, del, resv, fillA, setMany, Nat.reduceLT, Nat.reduceLeDiff, Nat.reduceEqDiff, Nat.reduceAdd, Nat.reduceMul, Nat.reduceSub, reduceIte, reduceCtorEq, if_true, if_false, ite_true, ite_false, eq_self, forall_const, implies_true, Int.reduceLT, Int.reduceLE, Int.reduceToNat, Int.reduceAdd, Int.reduceSub, Int.reduceNeg, ne_eq, Int.reduceEq, Int.reduceNe, Int.reduceBEq, Int.reduceBNe, beq_self_eq_true, bne_self_eq_false, BitVec.reduceBEq, BitVec.reduceBNe, BitVec.reduceOfInt, BitVec.reduceSetWidth, wrD, engS0, engS1, engS2, engS3, engS4, engS5, engS6, engS7, engS8, engS9, engT0, engT1, engT2, Fx.t1, Fx.t3, Fx.t4, Fx.t34, Fx.t55, Fx.t56, Fx.t68, Fx.t94, Try.results91, Try.ntmps91, filR]
  refine LoopOk.up (badI L) (fun i => ([(8, .int .i64 i), (7, .int .i64 L.length), (0, .ro L.length (L.flatMap filC)), (1, .fn (.func 77) [] [])], [], 0)) (Le.sameN ⟨rfl, rfl, rfl, rfl, trivial⟩ List.nodup_nil) ?_
  intro i hi
  rcases Nat.lt_or_ge i L.length with h | h
  · have wi : IntKind.i64.wrap ((i : Int) + 1) = ((i + 1 : Nat) : Int) := by rw [wrap_i64] <;> omega
    have g1 : decide ((i : Int) < (L.length : Int)) = true := by simp; omega
    have ht := filR_take h
    simp (config := { maxSteps := 1000000, implicitDefEqProofs := false }) only [-List.reduceReplicate, Nat.reduceBEq, renA, renL, renM, renO, evx, evs, evp, Eng.look, cst, cst1, putd, dstOk, params, loadx, partx, loI, hiI, bltx, mmI, boxx, srcx, calx, nilx, upd, del, resv, fillA, setMany, Nat.reduceLT, Nat.reduceLeDiff, Nat.reduceEqDiff, Nat.reduceAdd, Nat.reduceMul, Nat.reduceSub, reduceIte, reduceCtorEq, if_true, if_false, ite_true, ite_false, eq_self, forall_const, implies_true, Int.reduceLT, Int.reduceLE, Int.reduceToNat, Int.reduceAdd, Int.reduceSub, Int.reduceNeg, ne_eq, Int.reduceEq, Int.reduceNe, Int.reduceBEq, Int.reduceBNe, beq_self_eq_true, bne_self_eq_false, BitVec.reduceBEq, BitVec.reduceBNe, BitVec.reduceOfInt, BitVec.reduceSetWidth, wrD, engS0, engS1, engS2, engS3, engS4, engS5, engS6, engS7, engS8, engS9, engT0, engT1, engT2, Fx.t1, Fx.t3, Fx.t4, Fx.t34, Fx.t55, Fx.t56, Fx.t68, Fx.t94, g1, Fx.en77, ht]
    refine ⟨by omega, by rw [filR_len]; omega, by rw [List.length_drop, filR_len]; omega, ?_⟩
    refine (may1Ok (L.getD i filD)).flatv ⟨rfl, trivial⟩ (fun _ => rfl) rfl ?_
    rcases Nat.lt_or_ge i (badI L) with g | g
    · rw [badI_lt g]
      simp (config := { maxSteps := 1000000, implicitDefEqProofs := false }) only [-List.reduceReplicate, Nat.reduceBEq, renA, renL, renM, renO, evx, evs, evp, Eng.look, cst, cst1, putd, dstOk, params, loadx, partx, loI, hiI, bltx, mmI, boxx, srcx, calx, nilx, upd, del, resv, fillA, setMany, Nat.reduceLT, Nat.reduceLeDiff, Nat.reduceEqDiff, Nat.reduceAdd, Nat.reduceMul, Nat.reduceSub, reduceIte, reduceCtorEq, if_true, if_false, ite_true, ite_false, eq_self, forall_const, implies_true, Int.reduceLT, Int.reduceLE, Int.reduceToNat, Int.reduceAdd, Int.reduceSub, Int.reduceNeg, ne_eq, Int.reduceEq, Int.reduceNe, Int.reduceBEq, Int.reduceBNe, beq_self_eq_true, bne_self_eq_false, BitVec.reduceBEq, BitVec.reduceBNe, BitVec.reduceOfInt, BitVec.reduceSetWidth, wrD, engS0, engS1, engS2, engS3, engS4, engS5, engS6, engS7, engS8, engS9, engT0, engT1, engT2, Fx.t1, Fx.t3, Fx.t4, Fx.t34, Fx.t55, Fx.t56, Fx.t68, Fx.t94, wi]
      exact UpK_normal g (Le.sameN ⟨rfl, rfl, rfl, rfl, trivial⟩ List.nodup_nil)
    · have hb : i = badI L := by omega
      subst hb
      rw [badI_at h]
      simp (config := { maxSteps := 1000000, implicitDefEqProofs := false }) only [-List.reduceReplicate, Nat.reduceBEq, renA, renL, renM, renO, evx, evs, evp, Eng.look, cst, cst1, putd, dstOk, params, loadx, partx, loI, hiI, bltx, mmI, boxx, srcx, calx, nilx, upd, del, resv, fillA, setMany, Nat.reduceLT, Nat.reduceLeDiff, Nat.reduceEqDiff, Nat.reduceAdd, Nat.reduceMul, Nat.reduceSub, reduceIte, reduceCtorEq, if_true, if_false, ite_true, ite_false, eq_self, forall_const, implies_true, Int.reduceLT, Int.reduceLE, Int.reduceToNat, Int.reduceAdd, Int.reduceSub, Int.reduceNeg, ne_eq, Int.reduceEq, Int.reduceNe, Int.reduceBEq, Int.reduceBNe, beq_self_eq_true, bne_self_eq_false, BitVec.reduceBEq, BitVec.reduceBNe, BitVec.reduceOfInt, BitVec.reduceSetWidth, wrD, engS0, engS1, engS2, engS3, engS4, engS5, engS6, engS7, engS8, engS9, engT0, engT1, engT2, Fx.t1, Fx.t3, Fx.t4, Fx.t34, Fx.t55, Fx.t56, Fx.t68, Fx.t94]
      exact Fin.flatv (fun _ => rfl) (fun f => rfl) ⟨by rw [if_pos h], rfl, rfl⟩
  · have hb : i = badI L := by omega
    have g1 : decide ((i : Int) < (L.length : Int)) = false := by simp; omega
    simp (config := { maxSteps := 1000000, implicitDefEqProofs := false }) only [-List.reduceReplicate, Nat.reduceBEq, renA, renL, renM, renO, evx, evs, evp, Eng.look, cst, cst1, putd, dstOk, params, loadx, partx, loI, hiI, bltx, mmI, boxx, srcx, calx, nilx, upd, del, resv, fillA, setMany, Nat.reduceLT, Nat.reduceLeDiff, Nat.reduceEqDiff, Nat.reduceAdd, Nat.reduceMul, Nat.reduceSub, reduceIte, reduceCtorEq, if_true, if_false, ite_true, ite_false, eq_self, forall_const, implies_true, Int.reduceLT, Int.reduceLE, Int.reduceToNat, Int.reduceAdd, Int.reduceSub, Int.reduceNeg, ne_eq, Int.reduceEq, Int.reduceNe, Int.reduceBEq, Int.reduceBNe, beq_self_eq_true, bne_self_eq_false, BitVec.reduceBEq, BitVec.reduceBNe, BitVec.reduceOfInt, BitVec.reduceSetWidth, wrD, engS0, engS1, engS2, engS3, engS4, engS5, engS6, engS7, engS8, engS9, engT0, engT1, engT2, Fx.t1, Fx.t3, Fx.t4, Fx.t34, Fx.t55, Fx.t56, Fx.t68, Fx.t94, g1]
    exact Fin.flatv (fun _ => rfl) (fun f => rfl) ⟨by rw [if_neg (by omega)], rfl, rfl⟩
theorem containsOk (L : List Fil) (hL : L.length ≤ maxLen) : CallOk Try.prog 76 [filR L, .fn (.func 77) [] []] (fun _ => true) [] 0
    fun v m nx => v = .bool (!(L.all fitP)) ∧ m = [] ∧ nx = 0 := by
  refine fn_ok Try.func76 rfl (by show 2 ≤ _; decide) ?_
  simp (config := { maxSteps := 1000000, implicitDefEqProofs := false }) only [-List.reduceReplicate, Nat.reduceBEq, renA, renL, renM, renO, evx, evs, evp, Eng.look, cst, cst1, putd, dstOk, params, loadx, partx, loI, hiI, bltx, mmI, boxx, srcx, calx, nilx, upd, del, resv, fillA, setMany, Nat.reduceLT, Nat.reduceLeDiff, Nat.reduceEqDiff, Nat.reduceAdd, Nat.reduceMul, Nat.reduceSub, reduceIte, reduceCtorEq, if_true, if_false, ite_true, ite_false, eq_self, forall_const, implies_true, Int.reduceLT, Int.reduceLE, Int.reduceToNat, Int.reduceAdd, Int.reduceSub, Int.reduceNeg, ne_eq, Int.reduceEq, Int.reduceNe, Int.reduceBEq, Int.reduceBNe, beq_self_eq_true, bne_self_eq_false, BitVec.reduceBEq, BitVec.reduceBNe, BitVec.reduceOfInt, BitVec.reduceSetWidth, wrD, engS0, engS1, engS2, engS3, engS4, engS5, engS6, engS7, engS8, engS9, engT0, engT1, engT2, Fx.t3, Fx.t4, Fx.t34, Fx.t55, Fx.t56, Fx.t68, Fx.t94, Fx.en91, Try.results76, Try.ntmps76]
  refine (indexOk L hL).flatv ⟨(filR_ren _ _).symm, rfl, trivial⟩ (fun _ => rfl) rfl ?_
  have hle := badI_le L
  have e : decide ((if badI L < L.length then (badI L : Int) else -1) ≥ 0) = !(L.all fitP) := by
    rw [badI_all]
    rcases Nat.lt_or_ge (badI L) L.length with g | g
    · rw [if_pos g, decide_eq_true (by omega : (badI L : Int) ≥ 0), decide_eq_false (by omega : ¬ badI L = L.length)]; rfl
    · rw [if_neg (by omega), decide_eq_true (by omega : badI L = L.length)]; rfl
  simp (config := { maxSteps := 1000000, implicitDefEqProofs := false }) only [-List.reduceReplicate, Nat.reduceBEq, renA, renL, renM, renO, evx, evs, evp, Eng.look, cst, cst1, putd, dstOk, params, loadx, partx, loI, hiI, bltx, mmI, boxx, srcx, calx, nilx, upd, del, resv, fillA, setMany, Nat.reduceLT, Nat.reduceLeDiff, Nat.reduceEqDiff, Nat.reduceAdd, Nat.reduceMul, Nat.reduceSub, reduceIte, reduceCtorEq, if_true, if_false, ite_true, ite_false, eq_self, forall_const, implies_true, Int.reduceLT, Int.reduceLE, Int.reduceToNat, Int.reduceAdd, Int.reduceSub, Int.reduceNeg, ne_eq, Int.reduceEq, Int.reduceNe, Int.reduceBEq, Int.reduceBNe, beq_self_eq_true, bne_self_eq_false, BitVec.reduceBEq, BitVec.reduceBNe, BitVec.reduceOfInt, BitVec.reduceSetWidth, wrD, engS0, engS1, engS2, engS3, engS4, engS5, engS6, engS7, engS8, engS9, engT0, engT1, engT2, Fx.t3, Fx.t4, Fx.t34, Fx.t55, Fx.t56, Fx.t68, Fx.t94, Fx.en91, e]
  exact Fin.flatv (fun _ => rfl) (fun f => rfl) ⟨rfl, rfl, rfl⟩
theorem mayOk15 (L : List Fil) (hL : L.length ≤ maxLen) : CallOk Try.prog 53 [filR L] (fun _ => true) [] 0 fun v m nx => v = .bool (mayB L) ∧ m = [] ∧ nx = 0 := by
  refine fn_ok Try.func53 rfl (by show 1 ≤ _; decide) ?_
  rcases Decidable.em (L.length ≤ 3) with h | h
  · have e1 : decide ((L.length : Int) ≤ 3) = true := by simp; omega
    have hm : mayB L = L.all fitP := by rw [mayB, decide_eq_true h, Bool.true_and]
    simp (config := { maxSteps := 1000000, implicitDefEqProofs := false }) only [-List.reduceReplicate, Nat.reduceBEq, renA, renL, renM, renO, evx, evs, evp, Eng.look, cst, cst1, putd, dstOk, params, loadx, partx, loI, hiI, bltx, mmI, boxx, srcx, calx, nilx, upd, del, resv, fillA, setMany, Nat.reduceLT, Nat.reduceLeDiff, Nat.reduceEqDiff, Nat.reduceAdd, Nat.reduceMul, Nat.reduceSub, reduceIte, reduceCtorEq, if_true, if_false, ite_true, ite_false, eq_self, forall_const, implies_true, Int.reduceLT, Int.reduceLE, Int.reduceToNat, Int.reduceAdd, Int.reduceSub, Int.reduceNeg, ne_eq, Int.reduceEq, Int.reduceNe, Int.reduceBEq, Int.reduceBNe, beq_self_eq_true, bne_self_eq_false, BitVec.reduceBEq, BitVec.reduceBNe, BitVec.reduceOfInt, BitVec.reduceSetWidth, wrD, engS0, engS1, engS2, engS3, engS4, engS5, engS6, engS7, engS8, engS9, engT0, engT1, engT2, Fx.t3, Fx.t4, Fx.t34, Fx.t55, Fx.t56, Fx.t68, Fx.t94, Fx.en76, Fx.en77, Try.results53, Try.ntmps53, filR, e1]
    refine (containsOk L hL).flatv ⟨(filR_ren _ _).symm, rfl, trivial⟩ (fun _ => rfl) rfl ?_
    rw [hm]
    simp (config := { maxSteps := 1000000, implicitDefEqProofs := false }) only [-List.reduceReplicate, Nat.reduceBEq, renA, renL, renM, renO, evx, evs, evp, Eng.look, cst, cst1, putd, dstOk, params, loadx, partx, loI, hiI, bltx, mmI, boxx, srcx, calx, nilx, upd, del, resv, fillA, setMany, Nat.reduceLT, Nat.reduceLeDiff, Nat.reduceEqDiff, Nat.reduceAdd, Nat.reduceMul, Nat.reduceSub, reduceIte, reduceCtorEq, if_true, if_false, ite_true, ite_false, eq_self, forall_const, implies_true, Int.reduceLT, Int.reduceLE, Int.reduceToNat, Int.reduceAdd, Int.reduceSub, Int.reduceNeg, ne_eq, Int.reduceEq, Int.reduceNe, Int.reduceBEq, Int.reduceBNe, beq_self_eq_true, bne_self_eq_false, BitVec.reduceBEq, BitVec.reduceBNe, BitVec.reduceOfInt, BitVec.reduceSetWidth, wrD, engS0, engS1, engS2, engS3, engS4, engS5, engS6, engS7, engS8, engS9, engT0, engT1, engT2, Fx.t3, Fx.t4, Fx.t34, Fx.t55, Fx.t56, Fx.t68, Fx.t94, Fx.en76, Fx.en77, Bool.not_not]
    exact Fin.flatv (fun _ => rfl) (fun f => rfl) ⟨rfl, rfl, rfl⟩
  · have e1 : decide ((L.length : Int) ≤ 3) = false := by simp; omega
    have hm : mayB L = false := by rw [mayB, decide_eq_false h, Bool.false_and]
    simp (config := { maxSteps := 1000000, implicitDefEqProofs := false }) only [-List.reduceReplicate, Nat.reduceBEq, renA, renL, renM, renO, evx, evs, evp, Eng.look, cst, cst1, putd, dstOk, params, loadx, partx, loI, hiI, bltx, mmI, boxx, srcx, calx, nilx, upd, del, resv, fillA, setMany, Nat.reduceLT, Nat.reduceLeDiff, Nat.reduceEqDiff, Nat.reduceAdd, Nat.reduceMul, Nat.reduceSub, reduceIte, reduceCtorEq, if_true, if_false, ite_true, ite_false, eq_self, forall_const, implies_true, Int.reduceLT, Int.reduceLE, Int.reduceToNat, Int.reduceAdd, Int.reduceSub, Int.reduceNeg, ne_eq, Int.reduceEq, Int.reduceNe, Int.reduceBEq, Int.reduceBNe, beq_self_eq_true, bne_self_eq_false, BitVec.reduceBEq, BitVec.reduceBNe, BitVec.reduceOfInt, BitVec.reduceSetWidth, wrD, engS0, engS1, engS2, engS3, engS4, engS5, engS6, engS7, engS8, engS9, engT0, engT1, engT2, Fx.t3, Fx.t4, Fx.t34, Fx.t55, Fx.t56, Fx.t68, Fx.t94, Fx.en76, Fx.en77, Try.results53, Try.ntmps53, filR, e1, hm]
    exact Fin.flatv (fun _ => rfl) (fun f => rfl) ⟨rfl, rfl, rfl⟩
theorem rmayOk15 (L : List Fil) (hL : L.length ≤ maxLen) : CallOk Try.prog 52 [filR L] (fun _ => true) [] 0 fun v m nx => v = .bool (mayB L) ∧ m = [] ∧ nx = 0 := by
  refine fn_ok Try.func52 rfl (by show 1 ≤ _; decide) ?_
  have hle := badI_le L
  have hm : maxLen ≤ 9223372036854775807 := by decide
  simp (config := { maxSteps := 1000000, implicitDefEqProofs := false }) only [-List.reduceReplicate, Nat.reduceBEq, renA, renL, renM, renO, evx, evs, evp, Eng.look, cst, cst1, putd, dstOk, params, loadx, partx, loI, hiI, bltx, mmI, boxx, srcx, calx, nilx, upd, del, resv, fillA, setMany, Nat.reduceLT, Nat.reduceLeDiff, Nat.reduceEqDiff, Nat.reduceAdd, Nat.reduceMul, Nat.reduceSub, reduceIte, reduceCtorEq, if_true, if_false, ite_true, ite_false, eq_self, forall_const, implies_true, Int.reduceLT, Int.reduceLE, Int.reduceToNat, Int.reduceAdd, Int.reduceSub, Int.reduceNeg, ne_eq, Int.reduceEq, Int.reduceNe, Int.reduceBEq, Int.reduceBNe, beq_self_eq_true, bne_self_eq_false, BitVec.reduceBEq, BitVec.reduceBNe, BitVec.reduceOfInt, BitVec.reduceSetWidth, wrD, engS0, engS1, engS2, engS3, engS4, engS5, engS6, engS7, engS8, engS9, engT0, engT1, engT2, Fx.t3, Fx.t4, Fx.t34, Fx.t55, Fx.t56, Fx.t68, Fx.en74, Try.results52, Try.ntmps52, filR]
  refine LoopOk.up (badI L) (fun i => ([(3, .int .i64 i), (0, .ro L.length (L.flatMap filC))], [], 0)) (Le.sameN ⟨rfl, rfl, trivial⟩ List.nodup_nil) ?_
  intro i hi
  rcases Nat.lt_or_ge i L.length with h | h
  · have wi : IntKind.i64.wrap ((i : Int) + 1) = ((i + 1 : Nat) : Int) := by rw [wrap_i64] <;> omega
    have g1 : decide ((i : Int) < (L.length : Int)) = true := by simp; omega
    have ht := filR_take h
    simp (config := { maxSteps := 1000000, implicitDefEqProofs := false }) only [-List.reduceReplicate, Nat.reduceBEq, renA, renL, renM, renO, evx, evs, evp, Eng.look, cst, cst1, putd, dstOk, params, loadx, partx, loI, hiI, bltx, mmI, boxx, srcx, calx, nilx, upd, del, resv, fillA, setMany, Nat.reduceLT, Nat.reduceLeDiff, Nat.reduceEqDiff, Nat.reduceAdd, Nat.reduceMul, Nat.reduceSub, reduceIte, reduceCtorEq, if_true, if_false, ite_true, ite_false, eq_self, forall_const, implies_true, Int.reduceLT, Int.reduceLE, Int.reduceToNat, Int.reduceAdd, Int.reduceSub, Int.reduceNeg, ne_eq, Int.reduceEq, Int.reduceNe, Int.reduceBEq, Int.reduceBNe, beq_self_eq_true, bne_self_eq_false, BitVec.reduceBEq, BitVec.reduceBNe, BitVec.reduceOfInt, BitVec.reduceSetWidth, wrD, engS0, engS1, engS2, engS3, engS4, engS5, engS6, engS7, engS8, engS9, engT0, engT1, engT2, Fx.t3, Fx.t4, Fx.t34, Fx.t55, Fx.t56, Fx.t68, Fx.en74, g1, ht]
    refine ⟨by omega, by rw [filR_len]; omega, by rw [List.length_drop, filR_len]; omega, ?_⟩
    refine (rfitsOk (L.getD i filD).1 (L.getD i filD).2.1).flatv ⟨rfl, trivial⟩ (fun _ => rfl) rfl ?_
    rcases Nat.lt_or_ge i (badI L) with g | g
    · rw [show fitB (L.getD i filD).1 (L.getD i filD).2.1 = true from badI_lt g]
      simp (config := { maxSteps := 1000000, implicitDefEqProofs := false }) only [-List.reduceReplicate, Nat.reduceBEq, renA, renL, renM, renO, evx, evs, evp, Eng.look, cst, cst1, putd, dstOk, params, loadx, partx, loI, hiI, bltx, mmI, boxx, srcx, calx, nilx, upd, del, resv, fillA, setMany, Nat.reduceLT, Nat.reduceLeDiff, Nat.reduceEqDiff, Nat.reduceAdd, Nat.reduceMul, Nat.reduceSub, reduceIte, reduceCtorEq, if_true, if_false, ite_true, ite_false, eq_self, forall_const, implies_true, Int.reduceLT, Int.reduceLE, Int.reduceToNat, Int.reduceAdd, Int.reduceSub, Int.reduceNeg, ne_eq, Int.reduceEq, Int.reduceNe, Int.reduceBEq, Int.reduceBNe, beq_self_eq_true, bne_self_eq_false, BitVec.reduceBEq, BitVec.reduceBNe, BitVec.reduceOfInt, BitVec.reduceSetWidth, wrD, engS0, engS1, engS2, engS3, engS4, engS5, engS6, engS7, engS8, engS9, engT0, engT1, engT2, Fx.t3, Fx.t4, Fx.t34, Fx.t55, Fx.t56, Fx.t68, Fx.en74, wi]
      exact UpK_normal g (Le.sameN ⟨rfl, rfl, trivial⟩ List.nodup_nil)
    · have hb : i = badI L := by omega
      subst hb
      rw [show fitB (L.getD (badI L) filD).1 (L.getD (badI L) filD).2.1 = false from badI_at h]
      have hf : mayB L = false := by rw [mayB, badI_all, decide_eq_false (by omega : ¬ badI L = L.length), Bool.and_false]
      simp (config := { maxSteps := 1000000, implicitDefEqProofs := false }) only [-List.reduceReplicate, Nat.reduceBEq, renA, renL, renM, renO, evx, evs, evp, Eng.look, cst, cst1, putd, dstOk, params, loadx, partx, loI, hiI, bltx, mmI, boxx, srcx, calx, nilx, upd, del, resv, fillA, setMany, Nat.reduceLT, Nat.reduceLeDiff, Nat.reduceEqDiff, Nat.reduceAdd, Nat.reduceMul, Nat.reduceSub, reduceIte, reduceCtorEq, if_true, if_false, ite_true, ite_false, eq_self, forall_const, implies_true, Int.reduceLT, Int.reduceLE, Int.reduceToNat, Int.reduceAdd, Int.reduceSub, Int.reduceNeg, ne_eq, Int.reduceEq, Int.reduceNe, Int.reduceBEq, Int.reduceBNe, beq_self_eq_true, bne_self_eq_false, BitVec.reduceBEq, BitVec.reduceBNe, BitVec.reduceOfInt, BitVec.reduceSetWidth, wrD, engS0, engS1, engS2, engS3, engS4, engS5, engS6, engS7, engS8, engS9, engT0, engT1, engT2, Fx.t3, Fx.t4, Fx.t34, Fx.t55, Fx.t56, Fx.t68, Fx.en74, hf]
      exact Fin.flatv (fun _ => rfl) (fun f => rfl) ⟨rfl, rfl, rfl⟩
  · have hb : i = badI L := by omega
    have g1 : decide ((i : Int) < (L.length : Int)) = false := by simp; omega
    have hf : mayB L = decide ((L.length : Int) ≤ 3) := by rw [mayB, badI_all, decide_eq_true (by omega : badI L = L.length), Bool.and_true]; simp only [decide_eq_decide]; omega
    simp (config := { maxSteps := 1000000, implicitDefEqProofs := false }) only [-List.reduceReplicate, Nat.reduceBEq, renA, renL, renM, renO, evx, evs, evp, Eng.look, cst, cst1, putd, dstOk, params, loadx, partx, loI, hiI, bltx, mmI, boxx, srcx, calx, nilx, upd, del, resv, fillA, setMany, Nat.reduceLT, Nat.reduceLeDiff, Nat.reduceEqDiff, Nat.reduceAdd, Nat.reduceMul, Nat.reduceSub, reduceIte, reduceCtorEq, if_true, if_false, ite_true, ite_false, eq_self, forall_const, implies_true, Int.reduceLT, Int.reduceLE, Int.reduceToNat, Int.reduceAdd, Int.reduceSub, Int.reduceNeg, ne_eq, Int.reduceEq, Int.reduceNe, Int.reduceBEq, Int.reduceBNe, beq_self_eq_true, bne_self_eq_false, BitVec.reduceBEq, BitVec.reduceBNe, BitVec.reduceOfInt, BitVec.reduceSetWidth, wrD, engS0, engS1, engS2, engS3, engS4, engS5, engS6, engS7, engS8, engS9, engT0, engT1, engT2, Fx.t3, Fx.t4, Fx.t34, Fx.t55, Fx.t56, Fx.t68, Fx.en74, g1, hf]
    exact Fin.flatv (fun _ => rfl) (fun f => rfl) ⟨rfl, rfl, rfl⟩
def oneP (p : Fil) (back : Bool) (b : List (BitVec 8)) : List (BitVec 8) := oneF p.1 p.2.1 back b
theorem oneP_len (p : Fil) (back : Bool) (b : List (BitVec 8)) : (oneP p back b).length = b.length := oneF_len _ _ _ _
def sendF : List Fil → List (BitVec 8) → List (BitVec 8)
  | [], b => b
  | p :: r, b => sendF r (oneP p false b)
def backF : List Fil → List (BitVec 8) → List (BitVec 8)
  | [], b => b
  | p :: r, b => oneP p true (backF r b)
theorem sendF_len : ∀ (L : List Fil) (b : List (BitVec 8)), (sendF L b).length = b.length
  | [], b => rfl
  | p :: r, b => by rw [sendF, sendF_len r, oneP_len]
theorem backF_len : ∀ (L : List Fil) (b : List (BitVec 8)), (backF L b).length = b.length
  | [], b => rfl
  | p :: r, b => by rw [backF, oneP_len, backF_len r]
theorem one_back (p : Fil) (h : fitP p = true) (b : List (BitVec 8)) : oneP p true (oneP p false b) = b := by
  obtain ⟨id, n, u⟩ := p
  have h : fitB id n = true := h
  show oneF id n true (oneF id n false b) = b
  rcases Decidable.em (id = 3) with rfl | h3
  · rw [fitB_3, decide_eq_true_eq] at h
    have e1 : oneF 3 n false b = Lst (encE b n.toNat) b.length := by rw [← outs_enc b n.toNat h.1]; rfl
    have e2 : ∀ x : List (BitVec 8), oneF 3 n true x = Lst (decE x n.toNat) x.length := fun x => by rw [← outs_dec x n.toNat]; rfl
    rw [e1, e2, Lst_len, dec_enc b n.toNat h.1]
  · obtain ⟨hid, hst⟩ := (fitB_may h3).1 h
    rw [oneF, if_neg h3, oneF, if_neg h3]
    exact refX_back id hid n hst false b
theorem back_send : ∀ (L : List Fil), L.all fitP = true → ∀ b : List (BitVec 8), backF L (sendF L b) = b
  | [], _, b => rfl
  | p :: r, h, b => by
    rw [List.all_cons, Bool.and_eq_true] at h
    rw [sendF, backF, back_send r h.2, one_back p h.1]
theorem sendF_app (p : Fil) : ∀ (L : List Fil) (b : List (BitVec 8)), sendF (L ++ [p]) b = oneP p false (sendF L b)
  | [], b => rfl
  | q :: L, b => by rw [List.cons_append, sendF, sendF, sendF_app p L]
def thr (back : Bool) (L : List Fil) (b : List (BitVec 8)) (k : Nat) : List (BitVec 8) := if back then backF (L.drop (L.length - k)) b else sendF (L.take k) b
def thx (back : Bool) (L : List Fil) (k : Nat) : Nat := if back then L.length - 1 - k else k
theorem thr_len (back : Bool) (L : List Fil) (b : List (BitVec 8)) (k : Nat) : (thr back L b k).length = b.length := by
  unfold thr
  split
  · exact backF_len _ _
  · exact sendF_len _ _
theorem thr_0 (back : Bool) (L : List Fil) (b : List (BitVec 8)) : thr back L b 0 = b := by
  unfold thr
  split
  · rw [Nat.sub_zero, List.drop_length]; rfl
  · rfl
theorem thr_succ (back : Bool) (L : List Fil) (b : List (BitVec 8)) {k : Nat} (h : k < L.length) : thr back L b (k + 1) = oneP (L.getD (thx back L k) filD) back (thr back L b k) := by
  cases back with
  | true =>
    have h1 : L.length - 1 - k < L.length := by omega
    show backF (L.drop (L.length - (k + 1))) b = oneP (L.getD (L.length - 1 - k) filD) true (backF (L.drop (L.length - k)) b)
    rw [show L.length - (k + 1) = L.length - 1 - k by omega, List.drop_eq_getElem_cons h1, show L.length - 1 - k + 1 = L.length - k by omega, backF, List.getD_eq_getElem?_getD, List.getElem?_eq_getElem h1]
    rfl
  | false =>
    show sendF (L.take (k + 1)) b = oneP (L.getD k filD) false (sendF (L.take k) b)
    rw [List.take_succ_eq_append_getElem h, sendF_app, List.getD_eq_getElem?_getD, List.getElem?_eq_getElem h]
    rfl
theorem thr_all (back : Bool) (L : List Fil) (b : List (BitVec 8)) : thr back L b L.length = if back then backF L b else sendF L b := by
  unfold thr
  rw [Nat.sub_self, List.drop_zero, List.take_length]
end Go.Proofs.Ytiibjaommelkkaa
