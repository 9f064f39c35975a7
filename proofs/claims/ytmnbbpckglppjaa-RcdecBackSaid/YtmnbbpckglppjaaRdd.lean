/- Reading bits: plain bits. -/
import Derived.Test.YtmnbbpckglppjaaEng19
import Derived.Test.YtmnbbpckglppjaaEng26
import Derived.Test.YtmnbbpckglppjaaRdc
set_option linter.unusedVariables false
set_option linter.unusedSimpArgs false
set_option maxRecDepth 100000
namespace Go.Proofs.Ytmnbbpckglppjaa
open Go Go.Eng

def plnStep (D : List (BitVec 8)) (x : DS × BitVec 32) : DS × BitVec 32 :=
  if x.1.o then x else if (x.1.r >>> 1).toNat ≤ x.1.c.toNat then (scl D 3 ⟨x.1.k, x.1.c - x.1.r >>> 1, x.1.r >>> 1, x.1.o⟩, x.2 <<< 1 ||| 1#32) else (scl D 3 ⟨x.1.k, x.1.c, x.1.r >>> 1, x.1.o⟩, x.2 <<< 1)
def pln (D : List (BitVec 8)) (s : DS) : Nat → DS × BitVec 32
  | 0 => (s, 0#32)
  | j + 1 => plnStep D (pln D s j)
def plnV (x : DS × BitVec 32) : BitVec 32 := if x.1.o then 0#32 else x.2
theorem pln_out {D : List (BitVec 8)} {s : DS} {j : Nat} (h : (pln D s j).1.o = true) : ∀ d, pln D s (j + d) = pln D s j
  | 0 => rfl
  | d + 1 => by rw [← Nat.add_assoc, pln, pln_out h d, plnStep, if_pos h]
theorem half_nat (r : BitVec 32) : (r >>> 1).toNat = r.toNat / 2 := by rw [BitVec.toNat_ushiftRight, Nat.shiftRight_eq_div_pow]
theorem plnStep_ok (D : List (BitVec 8)) (x : DS × BitVec 32) (h : okS D x.1) : okS D (plnStep D x).1 := by
  obtain ⟨k1, k2⟩ := h
  unfold plnStep
  split
  · exact ⟨k1, k2⟩
  · have ho : x.1.o = false := by simpa using ‹¬ x.1.o = true›
    have := k2 ho
    have := half_nat x.1.r
    split
    · exact scl_ok3 D _ k1 (by show 1 ≤ (x.1.r >>> 1).toNat; omega)
    · exact scl_ok3 D _ k1 (by show 1 ≤ (x.1.r >>> 1).toNat; omega)
theorem pln_ok (D : List (BitVec 8)) (s : DS) (h : okS D s) : ∀ j, okS D (pln D s j).1
  | 0 => h
  | j + 1 => plnStep_ok D _ (pln_ok D s h j)
def nB (n : Int) : Nat := if n < 0 then 0 else if 32 < n then 32 else n.toNat
theorem nB_le (n : Int) : nB n ≤ 32 := by unfold nB; split <;> (try split) <;> omega
theorem nB_min (n : Int) : (if (if (32 : Int) < n then (32 : Int) else n) > 0 then (if (32 : Int) < n then (32 : Int) else n) else 0) = (nB n : Int) := by
  unfold nB
  split <;> split <;> (try split) <;> omega
set_option maxHeartbeats 400000 in
theorem plainOk (D : List (BitVec 8)) (hD : D.length ≤ maxLen) (sp : List Value) (cap : Nat) (hcap : D.length + sp.length = cap) (s : DS) (hs : okS D s) (y : BitVec 32) (n : Int) :
    CallG false Try.prog 30 [.ptr 0 0, .int .u32 (y.toNat : Int), .int .i64 n] (fun _ => true) (dM D sp cap s) 2
      fun v m nx => v = .int .u32 ((plnV (pln D s (nB n))).toNat : Int) ∧ m = dM D sp cap (pln D s (nB n)).1 ∧ nx = 2 := by
  refine fn_okG Try.func30 rfl (by show 3 ≤ _; decide) ?_
  have hmin := nB_min n
  have hle := nB_le n
  simp (config := { maxSteps := 1000000, implicitDefEqProofs := false }) only [-List.reduceReplicate, Nat.reduceBEq, renA, renL, renM, renO, evx, evs, evp, Eng.look, cst, cst1, putd, dstOk, params, loadx, partx, loI, hiI, bltx, mmI, boxx, srcx, calx, nilx, upd, del, resv, fillA, setMany, Nat.reduceLT, Nat.reduceLeDiff, Nat.reduceEqDiff, Nat.reduceAdd, Nat.reduceMul, Nat.reduceSub, reduceIte, reduceCtorEq, if_true, if_false, ite_true, ite_false, eq_self, forall_const, implies_true, Int.reduceLT, Int.reduceLE, Int.reduceToNat, Int.reduceAdd, Int.reduceSub, Int.reduceNeg, ne_eq, Int.reduceEq, Int.reduceNe, Int.reduceBEq, Int.reduceBNe, beq_self_eq_true, bne_self_eq_false, BitVec.reduceBEq, BitVec.reduceBNe, BitVec.reduceOfInt, BitVec.reduceSetWidth, wrD, engS0, engS1, engS2, engS3, engS4, engS5, engS6, engS7, engS8, engS9, engT0, engT1, engT2, Fx.t2, Fx.t3, Fx.t4, Fx.t5, Fx.t23, Fx.t46, Fx.t53, Fx.t118, Fx.t119, Fx.en33, Fx.en74, Try.results30, Try.ntmps30, hmin]
  generalize nB n = N at *
  refine LoopOk.up N (fun j => ([(11, .int .i64 j), (10, .int .i64 N), (7, .int .u32 ((pln D s j).2.toNat : Int)), (0, .ptr 0 0)], dM D sp cap (pln D s j).1, 2)) (Le.sameT (by decide) ⟨rfl, rfl, rfl, rfl, trivial⟩ (memSame_slf (by simp [dM])) (by simp [dM])) ?_
  intro j hj
  have hok := pln_ok D s hs j
  rcases Nat.lt_or_ge j N with h | h
  · have g1 : decide ((j : Int) < (N : Int)) = true := by simp; omega
    have wj : IntKind.i64.wrap ((j : Int) + 1) = ((j + 1 : Nat) : Int) := by rw [wrap_i64] <;> omega
    have hnext : pln D s (j + 1) = plnStep D (pln D s j) := rfl
    simp (config := { maxSteps := 1000000, implicitDefEqProofs := false }) only [-List.reduceReplicate, Nat.reduceBEq, renA, renL, renM, renO, evx, evs, evp, Eng.look, cst, cst1, putd, dstOk, params, loadx, partx, loI, hiI, bltx, mmI, boxx, srcx, calx, nilx, upd, del, resv, fillA, setMany, Nat.reduceLT, Nat.reduceLeDiff, Nat.reduceEqDiff, Nat.reduceAdd, Nat.reduceMul, Nat.reduceSub, reduceIte, reduceCtorEq, if_true, if_false, ite_true, ite_false, eq_self, forall_const, implies_true, Int.reduceLT, Int.reduceLE, Int.reduceToNat, Int.reduceAdd, Int.reduceSub, Int.reduceNeg, ne_eq, Int.reduceEq, Int.reduceNe, Int.reduceBEq, Int.reduceBNe, beq_self_eq_true, bne_self_eq_false, BitVec.reduceBEq, BitVec.reduceBNe, BitVec.reduceOfInt, BitVec.reduceSetWidth, wrD, engS0, engS1, engS2, engS3, engS4, engS5, engS6, engS7, engS8, engS9, engT0, engT1, engT2, Fx.t2, Fx.t3, Fx.t4, Fx.t5, Fx.t23, Fx.t46, Fx.t53, Fx.t118, Fx.t119, Fx.en33, Fx.en74, g1]
    refine (outOk D sp cap (pln D s j).1 fun _ _ => rfl).weak ?_
    rintro v m nx ⟨rfl, rfl, rfl⟩
    cases ho : (pln D s j).1.o with
    | true =>
      have he : pln D s N = pln D s j := by have := pln_out ho (N - j); rwa [Nat.add_sub_cancel' hj] at this
      simp (config := { maxSteps := 1000000, implicitDefEqProofs := false }) only [-List.reduceReplicate, Nat.reduceBEq, renA, renL, renM, renO, evx, evs, evp, Eng.look, cst, cst1, putd, dstOk, params, loadx, partx, loI, hiI, bltx, mmI, boxx, srcx, calx, nilx, upd, del, resv, fillA, setMany, Nat.reduceLT, Nat.reduceLeDiff, Nat.reduceEqDiff, Nat.reduceAdd, Nat.reduceMul, Nat.reduceSub, reduceIte, reduceCtorEq, if_true, if_false, ite_true, ite_false, eq_self, forall_const, implies_true, Int.reduceLT, Int.reduceLE, Int.reduceToNat, Int.reduceAdd, Int.reduceSub, Int.reduceNeg, ne_eq, Int.reduceEq, Int.reduceNe, Int.reduceBEq, Int.reduceBNe, beq_self_eq_true, bne_self_eq_false, BitVec.reduceBEq, BitVec.reduceBNe, BitVec.reduceOfInt, BitVec.reduceSetWidth, wrD, engS0, engS1, engS2, engS3, engS4, engS5, engS6, engS7, engS8, engS9, engT0, engT1, engT2, Fx.t2, Fx.t3, Fx.t4, Fx.t5, Fx.t23, Fx.t46, Fx.t53, Fx.t118, Fx.t119, Fx.en33, Fx.en74]
      rw [he, plnV, if_pos ho]
      exact Fin.keep (m0 := dM D sp cap _) (Nat.le_refl _) ⟨rfl, rfl, trivial⟩ (by simp [dM]) ⟨rfl, rfl, rfl⟩
    | false =>
      obtain ⟨k1, k2⟩ := hok
      have k2 := k2 ho
      have hh := half_nat (pln D s j).1.r
      simp (config := { maxSteps := 1000000, implicitDefEqProofs := false }) only [-List.reduceReplicate, Nat.reduceBEq, renA, renL, renM, renO, evx, evs, evp, Eng.look, cst, cst1, putd, dstOk, params, loadx, partx, loI, hiI, bltx, mmI, boxx, srcx, calx, nilx, upd, del, resv, fillA, setMany, Nat.reduceLT, Nat.reduceLeDiff, Nat.reduceEqDiff, Nat.reduceAdd, Nat.reduceMul, Nat.reduceSub, reduceIte, reduceCtorEq, if_true, if_false, ite_true, ite_false, eq_self, forall_const, implies_true, Int.reduceLT, Int.reduceLE, Int.reduceToNat, Int.reduceAdd, Int.reduceSub, Int.reduceNeg, ne_eq, Int.reduceEq, Int.reduceNe, Int.reduceBEq, Int.reduceBNe, beq_self_eq_true, bne_self_eq_false, BitVec.reduceBEq, BitVec.reduceBNe, BitVec.reduceOfInt, BitVec.reduceSetWidth, wrD, engS0, engS1, engS2, engS3, engS4, engS5, engS6, engS7, engS8, engS9, engT0, engT1, engT2, Fx.t2, Fx.t3, Fx.t4, Fx.t5, Fx.t23, Fx.t46, Fx.t53, Fx.t118, Fx.t119, Fx.en33, Fx.en74, dM]
      refine ⟨Fx.mixed, .inl ⟨[(0, false), (1, false), (2, false), (3, false), (4, false), (5, false), (6, false), (7, false), (8, false)], [], by kernel_rfl, (fun n hn => by cases hn), ?_⟩⟩
      rcases Nat.lt_or_ge (pln D s j).1.c.toNat ((pln D s j).1.r >>> 1).toNat with hc | hc
      · have f1 : decide (((pln D s j).1.c.toNat : Int) ≥ (((pln D s j).1.r >>> 1).toNat : Int)) = false := decide_eq_false (by omega)
        rw [plnStep, if_neg (by rw [ho]; decide), if_neg (by omega)] at hnext
        simp (config := { maxSteps := 1000000, implicitDefEqProofs := false }) only [-List.reduceReplicate, Nat.reduceBEq, renA, renL, renM, renO, evx, evs, evp, Eng.look, cst, cst1, putd, dstOk, params, loadx, partx, loI, hiI, bltx, mmI, boxx, srcx, calx, nilx, upd, del, resv, fillA, setMany, Nat.reduceLT, Nat.reduceLeDiff, Nat.reduceEqDiff, Nat.reduceAdd, Nat.reduceMul, Nat.reduceSub, reduceIte, reduceCtorEq, if_true, if_false, ite_true, ite_false, eq_self, forall_const, implies_true, Int.reduceLT, Int.reduceLE, Int.reduceToNat, Int.reduceAdd, Int.reduceSub, Int.reduceNeg, ne_eq, Int.reduceEq, Int.reduceNe, Int.reduceBEq, Int.reduceBNe, beq_self_eq_true, bne_self_eq_false, BitVec.reduceBEq, BitVec.reduceBNe, BitVec.reduceOfInt, BitVec.reduceSetWidth, wrD, engS0, engS1, engS2, engS3, engS4, engS5, engS6, engS7, engS8, engS9, engT0, engT1, engT2, Fx.t2, Fx.t3, Fx.t4, Fx.t5, Fx.t23, Fx.t46, Fx.t53, Fx.t118, Fx.t119, Fx.en33, Fx.en74, f1]
        refine CallG.weak (sclOk D hD sp cap hcap ⟨(pln D s j).1.k, (pln D s j).1.c, (pln D s j).1.r >>> 1, (pln D s j).1.o⟩ k1 (by show 1 ≤ ((pln D s j).1.r >>> 1).toNat; omega)) ?_
        rintro v m nx ⟨rfl, rfl, rfl⟩
        simp (config := { maxSteps := 1000000, implicitDefEqProofs := false }) only [-List.reduceReplicate, Nat.reduceBEq, renA, renL, renM, renO, evx, evs, evp, Eng.look, cst, cst1, putd, dstOk, params, loadx, partx, loI, hiI, bltx, mmI, boxx, srcx, calx, nilx, upd, del, resv, fillA, setMany, Nat.reduceLT, Nat.reduceLeDiff, Nat.reduceEqDiff, Nat.reduceAdd, Nat.reduceMul, Nat.reduceSub, reduceIte, reduceCtorEq, if_true, if_false, ite_true, ite_false, eq_self, forall_const, implies_true, Int.reduceLT, Int.reduceLE, Int.reduceToNat, Int.reduceAdd, Int.reduceSub, Int.reduceNeg, ne_eq, Int.reduceEq, Int.reduceNe, Int.reduceBEq, Int.reduceBNe, beq_self_eq_true, bne_self_eq_false, BitVec.reduceBEq, BitVec.reduceBNe, BitVec.reduceOfInt, BitVec.reduceSetWidth, wrD, engS0, engS1, engS2, engS3, engS4, engS5, engS6, engS7, engS8, engS9, engT0, engT1, engT2, Fx.t2, Fx.t3, Fx.t4, Fx.t5, Fx.t23, Fx.t46, Fx.t53, Fx.t118, Fx.t119, Fx.en33, Fx.en74, wj]
        refine UpK_normal h ?_
        rw [hnext]
        exact Le.sameT (by decide) ⟨rfl, rfl, rfl, rfl, trivial⟩ (memSame_slf (by simp [dM])) (by simp [dM])
      · have f1 : decide (((pln D s j).1.c.toNat : Int) ≥ (((pln D s j).1.r >>> 1).toNat : Int)) = true := decide_eq_true (by omega)
        rw [plnStep, if_neg (by rw [ho]; decide), if_pos hc] at hnext
        simp (config := { maxSteps := 1000000, implicitDefEqProofs := false }) only [-List.reduceReplicate, Nat.reduceBEq, renA, renL, renM, renO, evx, evs, evp, Eng.look, cst, cst1, putd, dstOk, params, loadx, partx, loI, hiI, bltx, mmI, boxx, srcx, calx, nilx, upd, del, resv, fillA, setMany, Nat.reduceLT, Nat.reduceLeDiff, Nat.reduceEqDiff, Nat.reduceAdd, Nat.reduceMul, Nat.reduceSub, reduceIte, reduceCtorEq, if_true, if_false, ite_true, ite_false, eq_self, forall_const, implies_true, Int.reduceLT, Int.reduceLE, Int.reduceToNat, Int.reduceAdd, Int.reduceSub, Int.reduceNeg, ne_eq, Int.reduceEq, Int.reduceNe, Int.reduceBEq, Int.reduceBNe, beq_self_eq_true, bne_self_eq_false, BitVec.reduceBEq, BitVec.reduceBNe, BitVec.reduceOfInt, BitVec.reduceSetWidth, wrD, engS0, engS1, engS2, engS3, engS4, engS5, engS6, engS7, engS8, engS9, engT0, engT1, engT2, Fx.t2, Fx.t3, Fx.t4, Fx.t5, Fx.t23, Fx.t46, Fx.t53, Fx.t118, Fx.t119, Fx.en33, Fx.en74, f1]
        refine ⟨Fx.mixed, .inr (.inl ⟨[(0, false), (1, false), (2, false), (3, false), (4, false), (5, false), (6, false), (7, false), (8, false), (9, false), (10, false), (11, true)], [0], [11], [3, 7], by kernel_rfl, by kernel_rfl, (fun n hn => by cases List.mem_singleton.1 hn; exact ⟨rfl, rfl⟩), ?_⟩)⟩
        simp (config := { maxSteps := 1000000, implicitDefEqProofs := false }) only [-List.reduceReplicate, Nat.reduceBEq, renA, renL, renM, renO, evx, evs, evp, Eng.look, cst, cst1, putd, dstOk, params, loadx, partx, loI, hiI, bltx, mmI, boxx, srcx, calx, nilx, upd, del, resv, fillA, setMany, Nat.reduceLT, Nat.reduceLeDiff, Nat.reduceEqDiff, Nat.reduceAdd, Nat.reduceMul, Nat.reduceSub, reduceIte, reduceCtorEq, if_true, if_false, ite_true, ite_false, eq_self, forall_const, implies_true, Int.reduceLT, Int.reduceLE, Int.reduceToNat, Int.reduceAdd, Int.reduceSub, Int.reduceNeg, ne_eq, Int.reduceEq, Int.reduceNe, Int.reduceBEq, Int.reduceBNe, beq_self_eq_true, bne_self_eq_false, BitVec.reduceBEq, BitVec.reduceBNe, BitVec.reduceOfInt, BitVec.reduceSetWidth, wrD, engS0, engS1, engS2, engS3, engS4, engS5, engS6, engS7, engS8, engS9, engT0, engT1, engT2, Fx.t2, Fx.t3, Fx.t4, Fx.t5, Fx.t23, Fx.t46, Fx.t53, Fx.t118, Fx.t119, Fx.en33, Fx.en74]
        refine CallG.weak (sclOk D hD sp cap hcap ⟨(pln D s j).1.k, (pln D s j).1.c - (pln D s j).1.r >>> 1, (pln D s j).1.r >>> 1, (pln D s j).1.o⟩ k1 (by show 1 ≤ ((pln D s j).1.r >>> 1).toNat; omega)) ?_
        rintro v m nx ⟨rfl, rfl, rfl⟩
        simp (config := { maxSteps := 1000000, implicitDefEqProofs := false }) only [-List.reduceReplicate, Nat.reduceBEq, renA, renL, renM, renO, evx, evs, evp, Eng.look, cst, cst1, putd, dstOk, params, loadx, partx, loI, hiI, bltx, mmI, boxx, srcx, calx, nilx, upd, del, resv, fillA, setMany, Nat.reduceLT, Nat.reduceLeDiff, Nat.reduceEqDiff, Nat.reduceAdd, Nat.reduceMul, Nat.reduceSub, reduceIte, reduceCtorEq, if_true, if_false, ite_true, ite_false, eq_self, forall_const, implies_true, Int.reduceLT, Int.reduceLE, Int.reduceToNat, Int.reduceAdd, Int.reduceSub, Int.reduceNeg, ne_eq, Int.reduceEq, Int.reduceNe, Int.reduceBEq, Int.reduceBNe, beq_self_eq_true, bne_self_eq_false, BitVec.reduceBEq, BitVec.reduceBNe, BitVec.reduceOfInt, BitVec.reduceSetWidth, wrD, engS0, engS1, engS2, engS3, engS4, engS5, engS6, engS7, engS8, engS9, engT0, engT1, engT2, Fx.t2, Fx.t3, Fx.t4, Fx.t5, Fx.t23, Fx.t46, Fx.t53, Fx.t118, Fx.t119, Fx.en33, Fx.en74, wj]
        refine UpK_normal h ?_
        rw [hnext]
        exact Le.sameT (by decide) ⟨rfl, rfl, rfl, rfl, trivial⟩ (memSame_slf (by simp [dM])) (by simp [dM])
  · have hj' : j = N := by omega
    subst hj'
    have g1 : decide ((j : Int) < (j : Int)) = false := by simp
    simp (config := { maxSteps := 1000000, implicitDefEqProofs := false }) only [-List.reduceReplicate, Nat.reduceBEq, renA, renL, renM, renO, evx, evs, evp, Eng.look, cst, cst1, putd, dstOk, params, loadx, partx, loI, hiI, bltx, mmI, boxx, srcx, calx, nilx, upd, del, resv, fillA, setMany, Nat.reduceLT, Nat.reduceLeDiff, Nat.reduceEqDiff, Nat.reduceAdd, Nat.reduceMul, Nat.reduceSub, reduceIte, reduceCtorEq, if_true, if_false, ite_true, ite_false, eq_self, forall_const, implies_true, Int.reduceLT, Int.reduceLE, Int.reduceToNat, Int.reduceAdd, Int.reduceSub, Int.reduceNeg, ne_eq, Int.reduceEq, Int.reduceNe, Int.reduceBEq, Int.reduceBNe, beq_self_eq_true, bne_self_eq_false, BitVec.reduceBEq, BitVec.reduceBNe, BitVec.reduceOfInt, BitVec.reduceSetWidth, wrD, engS0, engS1, engS2, engS3, engS4, engS5, engS6, engS7, engS8, engS9, engT0, engT1, engT2, Fx.t2, Fx.t3, Fx.t4, Fx.t5, Fx.t23, Fx.t46, Fx.t53, Fx.t118, Fx.t119, Fx.en33, Fx.en74, g1]
    refine (outOk D sp cap (pln D s j).1 fun _ _ => rfl).weak ?_
    rintro v m nx ⟨rfl, rfl, rfl⟩
    cases ho : (pln D s j).1.o with
    | true =>
      simp (config := { maxSteps := 1000000, implicitDefEqProofs := false }) only [-List.reduceReplicate, Nat.reduceBEq, renA, renL, renM, renO, evx, evs, evp, Eng.look, cst, cst1, putd, dstOk, params, loadx, partx, loI, hiI, bltx, mmI, boxx, srcx, calx, nilx, upd, del, resv, fillA, setMany, Nat.reduceLT, Nat.reduceLeDiff, Nat.reduceEqDiff, Nat.reduceAdd, Nat.reduceMul, Nat.reduceSub, reduceIte, reduceCtorEq, if_true, if_false, ite_true, ite_false, eq_self, forall_const, implies_true, Int.reduceLT, Int.reduceLE, Int.reduceToNat, Int.reduceAdd, Int.reduceSub, Int.reduceNeg, ne_eq, Int.reduceEq, Int.reduceNe, Int.reduceBEq, Int.reduceBNe, beq_self_eq_true, bne_self_eq_false, BitVec.reduceBEq, BitVec.reduceBNe, BitVec.reduceOfInt, BitVec.reduceSetWidth, wrD, engS0, engS1, engS2, engS3, engS4, engS5, engS6, engS7, engS8, engS9, engT0, engT1, engT2, Fx.t2, Fx.t3, Fx.t4, Fx.t5, Fx.t23, Fx.t46, Fx.t53, Fx.t118, Fx.t119, Fx.en33, Fx.en74]
      rw [plnV, if_pos ho]
      exact Fin.keep (m0 := dM D sp cap _) (Nat.le_refl _) ⟨rfl, rfl, trivial⟩ (by simp [dM]) ⟨rfl, rfl, rfl⟩
    | false =>
      simp (config := { maxSteps := 1000000, implicitDefEqProofs := false }) only [-List.reduceReplicate, Nat.reduceBEq, renA, renL, renM, renO, evx, evs, evp, Eng.look, cst, cst1, putd, dstOk, params, loadx, partx, loI, hiI, bltx, mmI, boxx, srcx, calx, nilx, upd, del, resv, fillA, setMany, Nat.reduceLT, Nat.reduceLeDiff, Nat.reduceEqDiff, Nat.reduceAdd, Nat.reduceMul, Nat.reduceSub, reduceIte, reduceCtorEq, if_true, if_false, ite_true, ite_false, eq_self, forall_const, implies_true, Int.reduceLT, Int.reduceLE, Int.reduceToNat, Int.reduceAdd, Int.reduceSub, Int.reduceNeg, ne_eq, Int.reduceEq, Int.reduceNe, Int.reduceBEq, Int.reduceBNe, beq_self_eq_true, bne_self_eq_false, BitVec.reduceBEq, BitVec.reduceBNe, BitVec.reduceOfInt, BitVec.reduceSetWidth, wrD, engS0, engS1, engS2, engS3, engS4, engS5, engS6, engS7, engS8, engS9, engT0, engT1, engT2, Fx.t2, Fx.t3, Fx.t4, Fx.t5, Fx.t23, Fx.t46, Fx.t53, Fx.t118, Fx.t119, Fx.en33, Fx.en74]
      rw [plnV, if_neg (by rw [ho]; decide)]
      exact Fin.keep (m0 := dM D sp cap _) (Nat.le_refl _) ⟨rfl, rfl, trivial⟩ (by simp [dM]) ⟨rfl, rfl, rfl⟩
theorem half32 (r : BitVec 32) : r / 2#32 = r >>> 1 := by
  refine BitVec.eq_of_toNat_eq ?_
  rw [half_nat, BitVec.toNat_udiv]; rfl
theorem dbl32 (v : BitVec 32) : v * 2#32 = v <<< 1 := by
  refine BitVec.eq_of_toNat_eq ?_
  rw [BitVec.toNat_mul, BitVec.toNat_shiftLeft, Nat.shiftLeft_eq]; rfl
theorem odd32 (v : BitVec 32) : v <<< 1 + 1#32 = v <<< 1 ||| 1#32 := by
  have hv := v.isLt
  refine BitVec.eq_of_toNat_eq ?_
  have e : v.toNat * 2 % 4294967296 = 2 ^ 1 * (v.toNat % 2147483648) := by omega
  rw [BitVec.toNat_add, BitVec.toNat_or, BitVec.toNat_shiftLeft, Nat.shiftLeft_eq, show (1#32).toNat = 1 from rfl, show (2 : Nat) ^ 32 = 4294967296 from rfl, show v.toNat * 2 ^ 1 = v.toNat * 2 from rfl, e, ← Nat.two_pow_add_eq_or_of_lt (by decide : 1 < 2 ^ 1)]
  omega
set_option maxHeartbeats 400000 in
theorem rplainOk (b : List (BitVec 8)) (hb : 5 ≤ b.length) (hb2 : b.length ≤ maxLen) (s : DS) (hs : okS (b.drop 5) s) (N : Nat) (hN : N ≤ 32) :
    CallG false Try.prog 31 [.ptr 0 0, .int .i64 (N : Int)] (fun _ => true) (rM b s) 1
      fun v m nx => v = .int .u32 ((plnV (pln (b.drop 5) s N)).toNat : Int) ∧ m = rM b (pln (b.drop 5) s N).1 ∧ nx = 1 := by
  refine fn_okG Try.func31 rfl (by show 2 ≤ _; decide) ?_
  simp (config := { maxSteps := 1000000, implicitDefEqProofs := false }) only [-List.reduceReplicate, Nat.reduceBEq, renA, renL, renM, renO, evx, evs, evp, Eng.look, cst, cst1, putd, dstOk, params, loadx, partx, loI, hiI, bltx, mmI, boxx, srcx, calx, nilx, upd, del, resv, fillA, setMany, Nat.reduceLT, Nat.reduceLeDiff, Nat.reduceEqDiff, Nat.reduceAdd, Nat.reduceMul, Nat.reduceSub, reduceIte, reduceCtorEq, if_true, if_false, ite_true, ite_false, eq_self, forall_const, implies_true, Int.reduceLT, Int.reduceLE, Int.reduceToNat, Int.reduceAdd, Int.reduceSub, Int.reduceNeg, ne_eq, Int.reduceEq, Int.reduceNe, Int.reduceBEq, Int.reduceBNe, beq_self_eq_true, bne_self_eq_false, BitVec.reduceBEq, BitVec.reduceBNe, BitVec.reduceOfInt, BitVec.reduceSetWidth, wrD, engS0, engS1, engS2, engS3, engS4, engS5, engS6, engS7, engS8, engS9, engT0, engT1, engT2, Fx.t2, Fx.t3, Fx.t4, Fx.t5, Fx.t22, Fx.t23, Fx.t49, Fx.t53, Fx.t62, Fx.t63, Fx.en77, Try.results31, Try.ntmps31]
  refine LoopOk.up N (fun j => ([(6, .int .i64 j), (5, .int .u32 ((pln (b.drop 5) s j).2.toNat : Int)), (0, .ptr 0 0), (1, .int .i64 N)], rM b (pln (b.drop 5) s j).1, 1)) (Le.sameT (by decide) ⟨rfl, rfl, rfl, rfl, trivial⟩ (memSame_slf (by simp [rM])) (by simp [rM])) ?_
  intro j hj
  have hok := pln_ok (b.drop 5) s hs j
  rcases Nat.lt_or_ge j N with h | h
  · have g1 : decide ((j : Int) < (N : Int)) = true := by simp; omega
    have wj : IntKind.i64.wrap ((j : Int) + 1) = ((j + 1 : Nat) : Int) := by rw [wrap_i64] <;> omega
    have hnext : pln (b.drop 5) s (j + 1) = plnStep (b.drop 5) (pln (b.drop 5) s j) := rfl
    cases ho : (pln (b.drop 5) s j).1.o with
    | true =>
      have he : pln (b.drop 5) s N = pln (b.drop 5) s j := by have := pln_out ho (N - j); rwa [Nat.add_sub_cancel' hj] at this
      simp (config := { maxSteps := 1000000, implicitDefEqProofs := false }) only [-List.reduceReplicate, Nat.reduceBEq, renA, renL, renM, renO, evx, evs, evp, Eng.look, cst, cst1, putd, dstOk, params, loadx, partx, loI, hiI, bltx, mmI, boxx, srcx, calx, nilx, upd, del, resv, fillA, setMany, Nat.reduceLT, Nat.reduceLeDiff, Nat.reduceEqDiff, Nat.reduceAdd, Nat.reduceMul, Nat.reduceSub, reduceIte, reduceCtorEq, if_true, if_false, ite_true, ite_false, eq_self, forall_const, implies_true, Int.reduceLT, Int.reduceLE, Int.reduceToNat, Int.reduceAdd, Int.reduceSub, Int.reduceNeg, ne_eq, Int.reduceEq, Int.reduceNe, Int.reduceBEq, Int.reduceBNe, beq_self_eq_true, bne_self_eq_false, BitVec.reduceBEq, BitVec.reduceBNe, BitVec.reduceOfInt, BitVec.reduceSetWidth, wrD, engS0, engS1, engS2, engS3, engS4, engS5, engS6, engS7, engS8, engS9, engT0, engT1, engT2, Fx.t2, Fx.t3, Fx.t4, Fx.t5, Fx.t22, Fx.t23, Fx.t49, Fx.t53, Fx.t62, Fx.t63, Fx.en77, rM, g1, ho]
      rw [he, plnV, if_pos ho]
      exact Fin.keep (m0 := rM b _) (Nat.le_refl _) ⟨by rw [ho]; rfl, trivial⟩ (by simp [rM]) ⟨rfl, rfl, rfl⟩
    | false =>
      obtain ⟨k1, k2⟩ := hok
      have k2 := k2 ho
      have hh := half_nat (pln (b.drop 5) s j).1.r
      simp (config := { maxSteps := 1000000, implicitDefEqProofs := false }) only [-List.reduceReplicate, Nat.reduceBEq, renA, renL, renM, renO, evx, evs, evp, Eng.look, cst, cst1, putd, dstOk, params, loadx, partx, loI, hiI, bltx, mmI, boxx, srcx, calx, nilx, upd, del, resv, fillA, setMany, Nat.reduceLT, Nat.reduceLeDiff, Nat.reduceEqDiff, Nat.reduceAdd, Nat.reduceMul, Nat.reduceSub, reduceIte, reduceCtorEq, if_true, if_false, ite_true, ite_false, eq_self, forall_const, implies_true, Int.reduceLT, Int.reduceLE, Int.reduceToNat, Int.reduceAdd, Int.reduceSub, Int.reduceNeg, ne_eq, Int.reduceEq, Int.reduceNe, Int.reduceBEq, Int.reduceBNe, beq_self_eq_true, bne_self_eq_false, BitVec.reduceBEq, BitVec.reduceBNe, BitVec.reduceOfInt, BitVec.reduceSetWidth, wrD, engS0, engS1, engS2, engS3, engS4, engS5, engS6, engS7, engS8, engS9, engT0, engT1, engT2, Fx.t2, Fx.t3, Fx.t4, Fx.t5, Fx.t22, Fx.t23, Fx.t49, Fx.t53, Fx.t62, Fx.t63, Fx.en77, rM, g1, ho, half32, dbl32, w64]
      refine ⟨Fx.mixed, .inl ⟨[(0, false), (1, false), (2, false), (3, false), (4, false), (5, false), (6, false), (7, false), (8, false)], [], by kernel_rfl, (fun n hn => by cases hn), ?_⟩⟩
      rcases Nat.lt_or_ge (pln (b.drop 5) s j).1.c.toNat ((pln (b.drop 5) s j).1.r >>> 1).toNat with hc | hc
      · have f1 : decide (((pln (b.drop 5) s j).1.c.toNat : Int) ≥ (((pln (b.drop 5) s j).1.r >>> 1).toNat : Int)) = false := decide_eq_false (by omega)
        rw [plnStep, if_neg (by rw [ho]; decide), if_neg (by omega), ho] at hnext
        simp (config := { maxSteps := 1000000, implicitDefEqProofs := false }) only [-List.reduceReplicate, Nat.reduceBEq, renA, renL, renM, renO, evx, evs, evp, Eng.look, cst, cst1, putd, dstOk, params, loadx, partx, loI, hiI, bltx, mmI, boxx, srcx, calx, nilx, upd, del, resv, fillA, setMany, Nat.reduceLT, Nat.reduceLeDiff, Nat.reduceEqDiff, Nat.reduceAdd, Nat.reduceMul, Nat.reduceSub, reduceIte, reduceCtorEq, if_true, if_false, ite_true, ite_false, eq_self, forall_const, implies_true, Int.reduceLT, Int.reduceLE, Int.reduceToNat, Int.reduceAdd, Int.reduceSub, Int.reduceNeg, ne_eq, Int.reduceEq, Int.reduceNe, Int.reduceBEq, Int.reduceBNe, beq_self_eq_true, bne_self_eq_false, BitVec.reduceBEq, BitVec.reduceBNe, BitVec.reduceOfInt, BitVec.reduceSetWidth, wrD, engS0, engS1, engS2, engS3, engS4, engS5, engS6, engS7, engS8, engS9, engT0, engT1, engT2, Fx.t2, Fx.t3, Fx.t4, Fx.t5, Fx.t22, Fx.t23, Fx.t49, Fx.t53, Fx.t62, Fx.t63, Fx.en77, f1]
        refine CallG.weak (rsclOk b hb hb2 ⟨(pln (b.drop 5) s j).1.k, (pln (b.drop 5) s j).1.c, (pln (b.drop 5) s j).1.r >>> 1, false⟩ k1 (by show 1 ≤ ((pln (b.drop 5) s j).1.r >>> 1).toNat; omega)) ?_
        rintro v m nx ⟨rfl, rfl, rfl⟩
        simp (config := { maxSteps := 1000000, implicitDefEqProofs := false }) only [-List.reduceReplicate, Nat.reduceBEq, renA, renL, renM, renO, evx, evs, evp, Eng.look, cst, cst1, putd, dstOk, params, loadx, partx, loI, hiI, bltx, mmI, boxx, srcx, calx, nilx, upd, del, resv, fillA, setMany, Nat.reduceLT, Nat.reduceLeDiff, Nat.reduceEqDiff, Nat.reduceAdd, Nat.reduceMul, Nat.reduceSub, reduceIte, reduceCtorEq, if_true, if_false, ite_true, ite_false, eq_self, forall_const, implies_true, Int.reduceLT, Int.reduceLE, Int.reduceToNat, Int.reduceAdd, Int.reduceSub, Int.reduceNeg, ne_eq, Int.reduceEq, Int.reduceNe, Int.reduceBEq, Int.reduceBNe, beq_self_eq_true, bne_self_eq_false, BitVec.reduceBEq, BitVec.reduceBNe, BitVec.reduceOfInt, BitVec.reduceSetWidth, wrD, engS0, engS1, engS2, engS3, engS4, engS5, engS6, engS7, engS8, engS9, engT0, engT1, engT2, Fx.t2, Fx.t3, Fx.t4, Fx.t5, Fx.t22, Fx.t23, Fx.t49, Fx.t53, Fx.t62, Fx.t63, Fx.en77, wj]
        refine UpK_normal h ?_
        rw [hnext]
        exact Le.sameT (by decide) ⟨rfl, rfl, rfl, rfl, trivial⟩ (memSame_slf (by simp [rM])) (by simp [rM])
      · have f1 : decide (((pln (b.drop 5) s j).1.c.toNat : Int) ≥ (((pln (b.drop 5) s j).1.r >>> 1).toNat : Int)) = true := decide_eq_true (by omega)
        have hs1 := sub64 (pln (b.drop 5) s j).1.c ((pln (b.drop 5) s j).1.r >>> 1) hc
        rw [plnStep, if_neg (by rw [ho]; decide), if_pos hc, ho] at hnext
        simp (config := { maxSteps := 1000000, implicitDefEqProofs := false }) only [-List.reduceReplicate, Nat.reduceBEq, renA, renL, renM, renO, evx, evs, evp, Eng.look, cst, cst1, putd, dstOk, params, loadx, partx, loI, hiI, bltx, mmI, boxx, srcx, calx, nilx, upd, del, resv, fillA, setMany, Nat.reduceLT, Nat.reduceLeDiff, Nat.reduceEqDiff, Nat.reduceAdd, Nat.reduceMul, Nat.reduceSub, reduceIte, reduceCtorEq, if_true, if_false, ite_true, ite_false, eq_self, forall_const, implies_true, Int.reduceLT, Int.reduceLE, Int.reduceToNat, Int.reduceAdd, Int.reduceSub, Int.reduceNeg, ne_eq, Int.reduceEq, Int.reduceNe, Int.reduceBEq, Int.reduceBNe, beq_self_eq_true, bne_self_eq_false, BitVec.reduceBEq, BitVec.reduceBNe, BitVec.reduceOfInt, BitVec.reduceSetWidth, wrD, engS0, engS1, engS2, engS3, engS4, engS5, engS6, engS7, engS8, engS9, engT0, engT1, engT2, Fx.t2, Fx.t3, Fx.t4, Fx.t5, Fx.t22, Fx.t23, Fx.t49, Fx.t53, Fx.t62, Fx.t63, Fx.en77, f1]
        refine ⟨Fx.mixed, .inr (.inl ⟨[(0, false), (1, false), (2, false), (3, false), (4, false), (5, false), (6, false), (7, false), (8, false), (9, false), (10, false), (11, false), (12, true)], [0], [12], [4, 8], by kernel_rfl, by kernel_rfl, (fun n hn => by cases List.mem_singleton.1 hn; exact ⟨rfl, rfl⟩), ?_⟩)⟩
        simp (config := { maxSteps := 1000000, implicitDefEqProofs := false }) only [-List.reduceReplicate, Nat.reduceBEq, renA, renL, renM, renO, evx, evs, evp, Eng.look, cst, cst1, putd, dstOk, params, loadx, partx, loI, hiI, bltx, mmI, boxx, srcx, calx, nilx, upd, del, resv, fillA, setMany, Nat.reduceLT, Nat.reduceLeDiff, Nat.reduceEqDiff, Nat.reduceAdd, Nat.reduceMul, Nat.reduceSub, reduceIte, reduceCtorEq, if_true, if_false, ite_true, ite_false, eq_self, forall_const, implies_true, Int.reduceLT, Int.reduceLE, Int.reduceToNat, Int.reduceAdd, Int.reduceSub, Int.reduceNeg, ne_eq, Int.reduceEq, Int.reduceNe, Int.reduceBEq, Int.reduceBNe, beq_self_eq_true, bne_self_eq_false, BitVec.reduceBEq, BitVec.reduceBNe, BitVec.reduceOfInt, BitVec.reduceSetWidth, wrD, engS0, engS1, engS2, engS3, engS4, engS5, engS6, engS7, engS8, engS9, engT0, engT1, engT2, Fx.t2, Fx.t3, Fx.t4, Fx.t5, Fx.t22, Fx.t23, Fx.t49, Fx.t53, Fx.t62, Fx.t63, Fx.en77, hs1, odd32]
        refine CallG.weak (rsclOk b hb hb2 ⟨(pln (b.drop 5) s j).1.k, (pln (b.drop 5) s j).1.c - (pln (b.drop 5) s j).1.r >>> 1, (pln (b.drop 5) s j).1.r >>> 1, false⟩ k1 (by show 1 ≤ ((pln (b.drop 5) s j).1.r >>> 1).toNat; omega)) ?_
        rintro v m nx ⟨rfl, rfl, rfl⟩
        simp (config := { maxSteps := 1000000, implicitDefEqProofs := false }) only [-List.reduceReplicate, Nat.reduceBEq, renA, renL, renM, renO, evx, evs, evp, Eng.look, cst, cst1, putd, dstOk, params, loadx, partx, loI, hiI, bltx, mmI, boxx, srcx, calx, nilx, upd, del, resv, fillA, setMany, Nat.reduceLT, Nat.reduceLeDiff, Nat.reduceEqDiff, Nat.reduceAdd, Nat.reduceMul, Nat.reduceSub, reduceIte, reduceCtorEq, if_true, if_false, ite_true, ite_false, eq_self, forall_const, implies_true, Int.reduceLT, Int.reduceLE, Int.reduceToNat, Int.reduceAdd, Int.reduceSub, Int.reduceNeg, ne_eq, Int.reduceEq, Int.reduceNe, Int.reduceBEq, Int.reduceBNe, beq_self_eq_true, bne_self_eq_false, BitVec.reduceBEq, BitVec.reduceBNe, BitVec.reduceOfInt, BitVec.reduceSetWidth, wrD, engS0, engS1, engS2, engS3, engS4, engS5, engS6, engS7, engS8, engS9, engT0, engT1, engT2, Fx.t2, Fx.t3, Fx.t4, Fx.t5, Fx.t22, Fx.t23, Fx.t49, Fx.t53, Fx.t62, Fx.t63, Fx.en77, wj]
        refine UpK_normal h ?_
        rw [hnext]
        exact Le.sameT (by decide) ⟨rfl, rfl, rfl, rfl, trivial⟩ (memSame_slf (by simp [rM])) (by simp [rM])
  · have hj' : j = N := by omega
    have he : pln (b.drop 5) s N = pln (b.drop 5) s j := by rw [hj']
    have g1 : decide ((j : Int) < (N : Int)) = false := by simp; omega
    cases ho : (pln (b.drop 5) s j).1.o with
    | true =>
      simp (config := { maxSteps := 1000000, implicitDefEqProofs := false }) only [-List.reduceReplicate, Nat.reduceBEq, renA, renL, renM, renO, evx, evs, evp, Eng.look, cst, cst1, putd, dstOk, params, loadx, partx, loI, hiI, bltx, mmI, boxx, srcx, calx, nilx, upd, del, resv, fillA, setMany, Nat.reduceLT, Nat.reduceLeDiff, Nat.reduceEqDiff, Nat.reduceAdd, Nat.reduceMul, Nat.reduceSub, reduceIte, reduceCtorEq, if_true, if_false, ite_true, ite_false, eq_self, forall_const, implies_true, Int.reduceLT, Int.reduceLE, Int.reduceToNat, Int.reduceAdd, Int.reduceSub, Int.reduceNeg, ne_eq, Int.reduceEq, Int.reduceNe, Int.reduceBEq, Int.reduceBNe, beq_self_eq_true, bne_self_eq_false, BitVec.reduceBEq, BitVec.reduceBNe, BitVec.reduceOfInt, BitVec.reduceSetWidth, wrD, engS0, engS1, engS2, engS3, engS4, engS5, engS6, engS7, engS8, engS9, engT0, engT1, engT2, Fx.t2, Fx.t3, Fx.t4, Fx.t5, Fx.t22, Fx.t23, Fx.t49, Fx.t53, Fx.t62, Fx.t63, Fx.en77, rM, g1, ho]
      rw [he, plnV, if_pos ho]
      exact Fin.keep (m0 := rM b _) (Nat.le_refl _) ⟨by rw [ho]; rfl, trivial⟩ (by simp [rM]) ⟨rfl, rfl, rfl⟩
    | false =>
      simp (config := { maxSteps := 1000000, implicitDefEqProofs := false }) only [-List.reduceReplicate, Nat.reduceBEq, renA, renL, renM, renO, evx, evs, evp, Eng.look, cst, cst1, putd, dstOk, params, loadx, partx, loI, hiI, bltx, mmI, boxx, srcx, calx, nilx, upd, del, resv, fillA, setMany, Nat.reduceLT, Nat.reduceLeDiff, Nat.reduceEqDiff, Nat.reduceAdd, Nat.reduceMul, Nat.reduceSub, reduceIte, reduceCtorEq, if_true, if_false, ite_true, ite_false, eq_self, forall_const, implies_true, Int.reduceLT, Int.reduceLE, Int.reduceToNat, Int.reduceAdd, Int.reduceSub, Int.reduceNeg, ne_eq, Int.reduceEq, Int.reduceNe, Int.reduceBEq, Int.reduceBNe, beq_self_eq_true, bne_self_eq_false, BitVec.reduceBEq, BitVec.reduceBNe, BitVec.reduceOfInt, BitVec.reduceSetWidth, wrD, engS0, engS1, engS2, engS3, engS4, engS5, engS6, engS7, engS8, engS9, engT0, engT1, engT2, Fx.t2, Fx.t3, Fx.t4, Fx.t5, Fx.t22, Fx.t23, Fx.t49, Fx.t53, Fx.t62, Fx.t63, Fx.en77, rM, g1, ho]
      rw [he, plnV, if_neg (by rw [ho]; decide)]
      exact Fin.keep (m0 := rM b _) (Nat.le_refl _) ⟨by rw [ho]; rfl, trivial⟩ (by simp [rM]) ⟨rfl, rfl, rfl⟩
theorem bitsOk (n : Int) : CallG false Try.prog 32 [.int .i64 n] (fun _ => true) [] 0 fun v m nx => v = .int .i64 (nB n : Int) ∧ m = [] ∧ nx = 0 := by
  refine fn_okG Try.func32 rfl (by show 1 ≤ _; decide) ?_
  rcases Decidable.em (n < 0) with h | h
  · have e1 : decide (n < 0) = true := by simpa using h
    have hn : nB n = 0 := by rw [nB, if_pos h]
    simp (config := { maxSteps := 1000000, implicitDefEqProofs := false }) only [-List.reduceReplicate, Nat.reduceBEq, renA, renL, renM, renO, evx, evs, evp, Eng.look, cst, cst1, putd, dstOk, params, loadx, partx, loI, hiI, bltx, mmI, boxx, srcx, calx, nilx, upd, del, resv, fillA, setMany, Nat.reduceLT, Nat.reduceLeDiff, Nat.reduceEqDiff, Nat.reduceAdd, Nat.reduceMul, Nat.reduceSub, reduceIte, reduceCtorEq, if_true, if_false, ite_true, ite_false, eq_self, forall_const, implies_true, Int.reduceLT, Int.reduceLE, Int.reduceToNat, Int.reduceAdd, Int.reduceSub, Int.reduceNeg, ne_eq, Int.reduceEq, Int.reduceNe, Int.reduceBEq, Int.reduceBNe, beq_self_eq_true, bne_self_eq_false, BitVec.reduceBEq, BitVec.reduceBNe, BitVec.reduceOfInt, BitVec.reduceSetWidth, wrD, engS0, engS1, engS2, engS3, engS4, engS5, engS6, engS7, engS8, engS9, engT0, engT1, engT2, Fx.t3, Fx.t4, Try.results32, Try.ntmps32, e1, hn]
    exact Fin.flatv (fun _ => rfl) (fun f => rfl) ⟨rfl, rfl, rfl⟩
  have e1 : decide (n < 0) = false := by simpa using h
  rcases Decidable.em (32 < n) with h2 | h2
  · have e2 : decide (n > 32) = true := by simpa using h2
    have hn : nB n = 32 := by rw [nB, if_neg h, if_pos h2]
    simp (config := { maxSteps := 1000000, implicitDefEqProofs := false }) only [-List.reduceReplicate, Nat.reduceBEq, renA, renL, renM, renO, evx, evs, evp, Eng.look, cst, cst1, putd, dstOk, params, loadx, partx, loI, hiI, bltx, mmI, boxx, srcx, calx, nilx, upd, del, resv, fillA, setMany, Nat.reduceLT, Nat.reduceLeDiff, Nat.reduceEqDiff, Nat.reduceAdd, Nat.reduceMul, Nat.reduceSub, reduceIte, reduceCtorEq, if_true, if_false, ite_true, ite_false, eq_self, forall_const, implies_true, Int.reduceLT, Int.reduceLE, Int.reduceToNat, Int.reduceAdd, Int.reduceSub, Int.reduceNeg, ne_eq, Int.reduceEq, Int.reduceNe, Int.reduceBEq, Int.reduceBNe, beq_self_eq_true, bne_self_eq_false, BitVec.reduceBEq, BitVec.reduceBNe, BitVec.reduceOfInt, BitVec.reduceSetWidth, wrD, engS0, engS1, engS2, engS3, engS4, engS5, engS6, engS7, engS8, engS9, engT0, engT1, engT2, Fx.t3, Fx.t4, Try.results32, Try.ntmps32, e1, e2, hn]
    exact Fin.flatv (fun _ => rfl) (fun f => rfl) ⟨rfl, rfl, rfl⟩
  · have e2 : decide (n > 32) = false := by simpa using h2
    have hn : (nB n : Int) = n := by rw [nB, if_neg h, if_neg h2]; omega
    simp (config := { maxSteps := 1000000, implicitDefEqProofs := false }) only [-List.reduceReplicate, Nat.reduceBEq, renA, renL, renM, renO, evx, evs, evp, Eng.look, cst, cst1, putd, dstOk, params, loadx, partx, loI, hiI, bltx, mmI, boxx, srcx, calx, nilx, upd, del, resv, fillA, setMany, Nat.reduceLT, Nat.reduceLeDiff, Nat.reduceEqDiff, Nat.reduceAdd, Nat.reduceMul, Nat.reduceSub, reduceIte, reduceCtorEq, if_true, if_false, ite_true, ite_false, eq_self, forall_const, implies_true, Int.reduceLT, Int.reduceLE, Int.reduceToNat, Int.reduceAdd, Int.reduceSub, Int.reduceNeg, ne_eq, Int.reduceEq, Int.reduceNe, Int.reduceBEq, Int.reduceBNe, beq_self_eq_true, bne_self_eq_false, BitVec.reduceBEq, BitVec.reduceBNe, BitVec.reduceOfInt, BitVec.reduceSetWidth, wrD, engS0, engS1, engS2, engS3, engS4, engS5, engS6, engS7, engS8, engS9, engT0, engT1, engT2, Fx.t3, Fx.t4, Try.results32, Try.ntmps32, e1, e2, hn]
    exact Fin.flatv (fun _ => rfl) (fun f => rfl) ⟨rfl, rfl, rfl⟩
end Go.Proofs.Ytmnbbpckglppjaa
