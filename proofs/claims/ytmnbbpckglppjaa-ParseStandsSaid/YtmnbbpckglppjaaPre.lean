/- Parsing: the document's coder, which goes along: what fits, how far back, what is plain. -/
import Derived.Test.YtmnbbpckglppjaaEng19
import Derived.Test.YtmnbbpckglppjaaEng26
import Derived.Test.YtmnbbpckglppjaaPrd
set_option linter.unusedVariables false
set_option linter.unusedSimpArgs false
set_option maxRecDepth 100000
namespace Go.Proofs.Ytmnbbpckglppjaa
open Go Go.Eng

def codO (lc lp pb st : Int) (reps P : AV) : AObj := .cells [.int .i64 lc, .int .i64 lp, .int .i64 pb, .int .i64 st, reps, P] 134
def repRow (r : R4) (sp : List Value) : AObj := .cells (r.av ++ sp.map AV.val) 3
/-- a coder of the document's -/
structure CodAt (m : Mem) (nx c : Nat) (lc lp pb st : Int) (n : Nat) (r : R4) (cap : Nat) (sp : List Value) (P : AV) : Prop where
  o : Eng.look m c = some (codO lc lp pb st (.sl n 0 4 cap) P)
  q : Eng.look m n = some (repRow r sp)
  cn : c < nx
  nn : n < nx
  ne : c ≠ n
theorem rep_get (r : R4) (sp : List AV) (k : Nat) (h : k < 4) : (r.av ++ sp).getD k (.int .i64 0) = .int .i64 (r.get k) := by
  rcases (show k = 0 ∨ k = 1 ∨ k = 2 ∨ k = 3 by omega) with rfl | rfl | rfl | rfl <;> rfl
def Lit (b : BitVec 8) : Sym := ⟨0, b, 0, 0, 0⟩
def Mat (l e : Nat) : Sym := ⟨1, 0, l, e, 0⟩
def Rpt (l w : Nat) : Sym := ⟨2, 0, l, 0, w⟩
section
variable {wr : Nat → Bool} {m : Mem} {nx c : Nat} {lc lp pb st : Int} {n : Nat} {r : R4} {cap : Nat} {sp : List Value} {P : AV}
theorem cons_all (R : Rdm wr m nx) (hlt : ∀ p ∈ m, p.1 < nx) (o : AObj) : ∀ p ∈ m, Eng.look ((nx, o) :: m) p.1 = some p.2 := fun p hp => by
  have := hlt p hp
  rw [look_cons, if_neg (by omega)]
  exact look_mem R.nd hp
theorem cons_all2 (R : Rdm wr m nx) (hlt : ∀ p ∈ m, p.1 < nx) (o o' : AObj) : ∀ p ∈ m, Eng.look ((nx + 1, o) :: (nx, o') :: m) p.1 = some p.2 := fun p hp => by
  have := hlt p hp
  rw [look_cons, look_cons, if_neg (by omega), if_neg (by omega)]
  exact look_mem R.nd hp
/-! what a literal is -/
theorem fitsLit (R : Rdm wr m nx) (hlt : ∀ p ∈ m, p.1 < nx) (C H : AV) (b : BitVec 8) : CallG false Try.prog 48 [C, H, .agg (symC (Lit b))] wr m nx (Ku (.bool true) m nx) := by
  refine fn_okG Try.func48 rfl (by show 3 ≤ _; decide) ?_
  have g1 : decide ((0 : Int) ≥ 2) = false := by decide
  simp (config := { maxSteps := 1000000, implicitDefEqProofs := false }) only [-List.reduceReplicate, Nat.reduceBEq, renA, renL, renM, renO, evx, evs, evp, Eng.look, cst, cst1, putd, dstOk, params, loadx, partx, loI, hiI, bltx, mmI, boxx, srcx, calx, nilx, upd, del, resv, fillA, setMany, Nat.reduceLT, Nat.reduceLeDiff, Nat.reduceEqDiff, Nat.reduceAdd, Nat.reduceMul, Nat.reduceSub, reduceIte, reduceCtorEq, if_true, if_false, ite_true, ite_false, eq_self, forall_const, implies_true, Int.reduceLT, Int.reduceLE, Int.reduceToNat, Int.reduceAdd, Int.reduceSub, Int.reduceNeg, ne_eq, Int.reduceEq, Int.reduceNe, Int.reduceBEq, Int.reduceBNe, beq_self_eq_true, bne_self_eq_false, BitVec.reduceBEq, BitVec.reduceBNe, BitVec.reduceOfInt, BitVec.reduceSetWidth, wrD, engS0, engS1, engS2, engS3, engS4, engS5, engS6, engS7, engS8, engS9, engU0, engT0, engT1, engT2, Fx.t2, Fx.t3, Fx.t4, Fx.t5, Fx.t23, Fx.t52, Fx.t79, Fx.t82, Fx.t83, Fx.t91, Fx.t132, Fx.t133, Fx.t134, Try.results48, Try.ntmps48, symC, Lit, g1]
  exact R.finU (by omega) (cons_all R hlt _) _
theorem distLit (R : Rdm wr m nx) (hlt : ∀ p ∈ m, p.1 < nx) (C : AV) (b : BitVec 8) : CallG false Try.prog 49 [C, .agg (symC (Lit b))] wr m nx (Ku (.int .i64 0) m nx) := by
  refine fn_okG Try.func49 rfl (by show 2 ≤ _; decide) ?_
  simp (config := { maxSteps := 1000000, implicitDefEqProofs := false }) only [-List.reduceReplicate, Nat.reduceBEq, renA, renL, renM, renO, evx, evs, evp, Eng.look, cst, cst1, putd, dstOk, params, loadx, partx, loI, hiI, bltx, mmI, boxx, srcx, calx, nilx, upd, del, resv, fillA, setMany, Nat.reduceLT, Nat.reduceLeDiff, Nat.reduceEqDiff, Nat.reduceAdd, Nat.reduceMul, Nat.reduceSub, reduceIte, reduceCtorEq, if_true, if_false, ite_true, ite_false, eq_self, forall_const, implies_true, Int.reduceLT, Int.reduceLE, Int.reduceToNat, Int.reduceAdd, Int.reduceSub, Int.reduceNeg, ne_eq, Int.reduceEq, Int.reduceNe, Int.reduceBEq, Int.reduceBNe, beq_self_eq_true, bne_self_eq_false, BitVec.reduceBEq, BitVec.reduceBNe, BitVec.reduceOfInt, BitVec.reduceSetWidth, wrD, engS0, engS1, engS2, engS3, engS4, engS5, engS6, engS7, engS8, engS9, engU0, engT0, engT1, engT2, Fx.t3, Fx.t4, Fx.t5, Fx.t52, Fx.t79, Fx.t82, Fx.t83, Fx.t91, Fx.t132, Fx.t133, Fx.t134, Try.results49, Try.ntmps49, symC, Lit]
  exact R.finU (by omega) (cons_all R hlt _) _
theorem plainLit (R : Rdm wr m nx) (hlt : ∀ p ∈ m, p.1 < nx) (b : BitVec 8) : CallG false Try.prog 50 [.agg (symC (Lit b))] wr m nx (Ku (.agg (symC (Lit b))) m nx) := by
  refine fn_okG Try.func50 rfl (by show 1 ≤ _; decide) ?_
  have e1 : (nx + 1 = nx) = False := eq_false (by omega)
  simp (config := { maxSteps := 1000000, implicitDefEqProofs := false }) only [-List.reduceReplicate, Nat.reduceBEq, renA, renL, renM, renO, evx, evs, evp, Eng.look, cst, cst1, putd, dstOk, params, loadx, partx, loI, hiI, bltx, mmI, boxx, srcx, calx, nilx, upd, del, resv, fillA, setMany, Nat.reduceLT, Nat.reduceLeDiff, Nat.reduceEqDiff, Nat.reduceAdd, Nat.reduceMul, Nat.reduceSub, reduceIte, reduceCtorEq, if_true, if_false, ite_true, ite_false, eq_self, forall_const, implies_true, Int.reduceLT, Int.reduceLE, Int.reduceToNat, Int.reduceAdd, Int.reduceSub, Int.reduceNeg, ne_eq, Int.reduceEq, Int.reduceNe, Int.reduceBEq, Int.reduceBNe, beq_self_eq_true, bne_self_eq_false, BitVec.reduceBEq, BitVec.reduceBNe, BitVec.reduceOfInt, BitVec.reduceSetWidth, wrD, engS0, engS1, engS2, engS3, engS4, engS5, engS6, engS7, engS8, engS9, engU0, engT0, engT1, engT2, Fx.t1, Fx.t2, Fx.t3, Fx.t4, Fx.t5, Fx.t82, Fx.t83, Try.results50, Try.ntmps50, symC, Lit, e1, spl5']
  refine ⟨R.wn _ (by omega), ?_⟩
  exact R.finU (by omega) (cons_all2 R hlt _ _) _
theorem fitsMat (R : Rdm wr m nx) (hlt : ∀ p ∈ m, p.1 < nx) (C : AV) (h hl hc l e : Nat) (h1 : 2 ≤ l) (h2 : l ≤ 273) (h3 : 1 ≤ e) (h4 : e ≤ hl) (h5 : e ≤ 4294967295) : CallG false Try.prog 48 [C, .sl h 0 hl hc, .agg (symC (Mat l e))] wr m nx (Ku (.bool true) m nx) := by
  refine fn_okG Try.func48 rfl (by show 3 ≤ _; decide) ?_
  have g1 : decide ((l : Int) ≥ 2) = true := decide_eq_true (by omega)
  have g2 : decide ((l : Int) ≤ 273) = true := decide_eq_true (by omega)
  have g3 : decide ((e : Int) ≥ 1) = true := decide_eq_true (by omega)
  have g4 : decide ((e : Int) ≤ (hl : Int)) = true := decide_eq_true (by omega)
  have g5 : decide ((e : Int) ≤ 4294967295) = true := decide_eq_true (by omega)
  simp (config := { maxSteps := 1000000, implicitDefEqProofs := false }) only [-List.reduceReplicate, Nat.reduceBEq, renA, renL, renM, renO, evx, evs, evp, Eng.look, cst, cst1, putd, dstOk, params, loadx, partx, loI, hiI, bltx, mmI, boxx, srcx, calx, nilx, upd, del, resv, fillA, setMany, Nat.reduceLT, Nat.reduceLeDiff, Nat.reduceEqDiff, Nat.reduceAdd, Nat.reduceMul, Nat.reduceSub, reduceIte, reduceCtorEq, if_true, if_false, ite_true, ite_false, eq_self, forall_const, implies_true, Int.reduceLT, Int.reduceLE, Int.reduceToNat, Int.reduceAdd, Int.reduceSub, Int.reduceNeg, ne_eq, Int.reduceEq, Int.reduceNe, Int.reduceBEq, Int.reduceBNe, beq_self_eq_true, bne_self_eq_false, BitVec.reduceBEq, BitVec.reduceBNe, BitVec.reduceOfInt, BitVec.reduceSetWidth, wrD, engS0, engS1, engS2, engS3, engS4, engS5, engS6, engS7, engS8, engS9, engU0, engT0, engT1, engT2, Fx.t2, Fx.t3, Fx.t4, Fx.t5, Fx.t23, Fx.t52, Fx.t79, Fx.t82, Fx.t83, Fx.t91, Fx.t132, Fx.t133, Fx.t134, Try.results48, Try.ntmps48, symC, Mat, g1, g2, g3, g4, g5]
  exact R.finU (by omega) (cons_all R hlt _) _
theorem distMat (R : Rdm wr m nx) (hlt : ∀ p ∈ m, p.1 < nx) (C : AV) (l e : Nat) : CallG false Try.prog 49 [C, .agg (symC (Mat l e))] wr m nx (Ku (.int .i64 e) m nx) := by
  refine fn_okG Try.func49 rfl (by show 2 ≤ _; decide) ?_
  simp (config := { maxSteps := 1000000, implicitDefEqProofs := false }) only [-List.reduceReplicate, Nat.reduceBEq, renA, renL, renM, renO, evx, evs, evp, Eng.look, cst, cst1, putd, dstOk, params, loadx, partx, loI, hiI, bltx, mmI, boxx, srcx, calx, nilx, upd, del, resv, fillA, setMany, Nat.reduceLT, Nat.reduceLeDiff, Nat.reduceEqDiff, Nat.reduceAdd, Nat.reduceMul, Nat.reduceSub, reduceIte, reduceCtorEq, if_true, if_false, ite_true, ite_false, eq_self, forall_const, implies_true, Int.reduceLT, Int.reduceLE, Int.reduceToNat, Int.reduceAdd, Int.reduceSub, Int.reduceNeg, ne_eq, Int.reduceEq, Int.reduceNe, Int.reduceBEq, Int.reduceBNe, beq_self_eq_true, bne_self_eq_false, BitVec.reduceBEq, BitVec.reduceBNe, BitVec.reduceOfInt, BitVec.reduceSetWidth, wrD, engS0, engS1, engS2, engS3, engS4, engS5, engS6, engS7, engS8, engS9, engU0, engT0, engT1, engT2, Fx.t3, Fx.t4, Fx.t5, Fx.t52, Fx.t79, Fx.t82, Fx.t83, Fx.t91, Fx.t132, Fx.t133, Fx.t134, Try.results49, Try.ntmps49, symC, Mat]
  exact R.finU (by omega) (cons_all R hlt _) _
theorem plainMat (R : Rdm wr m nx) (hlt : ∀ p ∈ m, p.1 < nx) (l e : Nat) : CallG false Try.prog 50 [.agg (symC (Mat l e))] wr m nx (Ku (.agg (symC (Mat l e))) m nx) := by
  refine fn_okG Try.func50 rfl (by show 1 ≤ _; decide) ?_
  have e1 : (nx + 1 = nx) = False := eq_false (by omega)
  simp (config := { maxSteps := 1000000, implicitDefEqProofs := false }) only [-List.reduceReplicate, Nat.reduceBEq, renA, renL, renM, renO, evx, evs, evp, Eng.look, cst, cst1, putd, dstOk, params, loadx, partx, loI, hiI, bltx, mmI, boxx, srcx, calx, nilx, upd, del, resv, fillA, setMany, Nat.reduceLT, Nat.reduceLeDiff, Nat.reduceEqDiff, Nat.reduceAdd, Nat.reduceMul, Nat.reduceSub, reduceIte, reduceCtorEq, if_true, if_false, ite_true, ite_false, eq_self, forall_const, implies_true, Int.reduceLT, Int.reduceLE, Int.reduceToNat, Int.reduceAdd, Int.reduceSub, Int.reduceNeg, ne_eq, Int.reduceEq, Int.reduceNe, Int.reduceBEq, Int.reduceBNe, beq_self_eq_true, bne_self_eq_false, BitVec.reduceBEq, BitVec.reduceBNe, BitVec.reduceOfInt, BitVec.reduceSetWidth, wrD, engS0, engS1, engS2, engS3, engS4, engS5, engS6, engS7, engS8, engS9, engU0, engT0, engT1, engT2, Fx.t1, Fx.t2, Fx.t3, Fx.t4, Fx.t5, Fx.t82, Fx.t83, Try.results50, Try.ntmps50, symC, Mat, e1, spl5']
  refine ⟨R.wn _ (by omega), ?_⟩
  exact R.finU (by omega) (cons_all2 R hlt _ _) _
theorem fitsRpt (R : Rdm wr m nx) (hlt : ∀ p ∈ m, p.1 < nx) (Q : CodAt m nx c lc lp pb st n r cap sp P) (h hl hc l w : Nat) (hw : w < 4) (h1 : (2 ≤ l ∧ l ≤ 273) ∨ (l = 1 ∧ w = 0)) (h2 : r.get w ≤ hl) : CallG false Try.prog 48 [.ptr c 0, .sl h 0 hl hc, .agg (symC (Rpt l w))] wr m nx (Ku (.bool true) m nx) := by
  refine fn_okG Try.func48 rfl (by show 3 ≤ _; decide) ?_
  have o := Q.o
  have q := Q.q
  have e1 : (nx = c) = False := eq_false (by have := Q.cn; omega)
  have e2 : (nx = n) = False := eq_false (by have := Q.nn; omega)
  have e3 : decide (nx + 1 ≤ c) = false := decide_eq_false (by have := Q.cn; omega)
  have e4 : decide (nx + 1 ≤ n) = false := decide_eq_false (by have := Q.nn; omega)
  have e5 : decide (nx + 1 ≤ nx) = false := decide_eq_false (by omega)
  have g3 : decide ((w : Int) < 0) = false := decide_eq_false (by omega)
  have g4 : decide ((w : Int) > 3) = false := decide_eq_false (by omega)
  have g5 : decide (r.get w ≤ (hl : Int)) = true := decide_eq_true h2
  have hg := rep_get r (sp.map AV.val) w hw
  rcases h1 with ⟨k1, k2⟩ | ⟨k1, k2⟩
  · have g1 : decide ((l : Int) ≥ 2) = true := decide_eq_true (by omega)
    have g2 : decide ((l : Int) ≤ 273) = true := decide_eq_true (by omega)
    simp (config := { maxSteps := 1000000, implicitDefEqProofs := false }) only [-List.reduceReplicate, Nat.reduceBEq, renA, renL, renM, renO, evx, evs, evp, Eng.look, cst, cst1, putd, dstOk, params, loadx, partx, loI, hiI, bltx, mmI, boxx, srcx, calx, nilx, upd, del, resv, fillA, setMany, Nat.reduceLT, Nat.reduceLeDiff, Nat.reduceEqDiff, Nat.reduceAdd, Nat.reduceMul, Nat.reduceSub, reduceIte, reduceCtorEq, if_true, if_false, ite_true, ite_false, eq_self, forall_const, implies_true, Int.reduceLT, Int.reduceLE, Int.reduceToNat, Int.reduceAdd, Int.reduceSub, Int.reduceNeg, ne_eq, Int.reduceEq, Int.reduceNe, Int.reduceBEq, Int.reduceBNe, beq_self_eq_true, bne_self_eq_false, BitVec.reduceBEq, BitVec.reduceBNe, BitVec.reduceOfInt, BitVec.reduceSetWidth, wrD, engS0, engS1, engS2, engS3, engS4, engS5, engS6, engS7, engS8, engS9, engU0, engT0, engT1, engT2, Fx.t2, Fx.t3, Fx.t4, Fx.t5, Fx.t23, Fx.t52, Fx.t79, Fx.t82, Fx.t83, Fx.t91, Fx.t132, Fx.t133, Fx.t134, Try.results48, Try.ntmps48, symC, Rpt, g1, g2, g3, g4]
    refine ⟨Fx.mixed, .inl ⟨[(0, false), (1, false), (2, false), (3, false), (4, false), (5, false), (6, false), (7, false), (8, false), (9, false), (10, false), (11, false), (12, false), (13, false), (14, false), (15, false), (16, false), (17, false), (18, false), (19, false), (20, false), (21, false), (22, false), (23, false), (24, false)], [], by kernel_rfl, (fun n hn => by cases hn), ?_⟩⟩
    simp (config := { maxSteps := 1000000, implicitDefEqProofs := false }) only [-List.reduceReplicate, Nat.reduceBEq, renA, renL, renM, renO, evx, evs, evp, Eng.look, cst, cst1, putd, dstOk, params, loadx, partx, loI, hiI, bltx, mmI, boxx, srcx, calx, nilx, upd, del, resv, fillA, setMany, Nat.reduceLT, Nat.reduceLeDiff, Nat.reduceEqDiff, Nat.reduceAdd, Nat.reduceMul, Nat.reduceSub, reduceIte, reduceCtorEq, if_true, if_false, ite_true, ite_false, eq_self, forall_const, implies_true, Int.reduceLT, Int.reduceLE, Int.reduceToNat, Int.reduceAdd, Int.reduceSub, Int.reduceNeg, ne_eq, Int.reduceEq, Int.reduceNe, Int.reduceBEq, Int.reduceBNe, beq_self_eq_true, bne_self_eq_false, BitVec.reduceBEq, BitVec.reduceBNe, BitVec.reduceOfInt, BitVec.reduceSetWidth, wrD, engS0, engS1, engS2, engS3, engS4, engS5, engS6, engS7, engS8, engS9, engU0, engT0, engT1, engT2, Fx.t2, Fx.t3, Fx.t4, Fx.t5, Fx.t23, Fx.t52, Fx.t79, Fx.t82, Fx.t83, Fx.t91, Fx.t132, Fx.t133, Fx.t134, e1, e2, e3, e4, e5, o, q, codO, repRow, hg, g5, Int.toNat_natCast]
    refine ⟨by omega, by show w < 4 + sp.length; omega, ?_⟩
    exact R.finU (by omega) (cons_all R hlt _) _
  · subst k1; subst k2
    have d1 : decide ((1 : Int) ≥ 2) = false := by decide
    have d2 : decide ((0 : Int) > 3) = false := by decide
    simp (config := { maxSteps := 1000000, implicitDefEqProofs := false }) only [-List.reduceReplicate, Nat.reduceBEq, renA, renL, renM, renO, evx, evs, evp, Eng.look, cst, cst1, putd, dstOk, params, loadx, partx, loI, hiI, bltx, mmI, boxx, srcx, calx, nilx, upd, del, resv, fillA, setMany, Nat.reduceLT, Nat.reduceLeDiff, Nat.reduceEqDiff, Nat.reduceAdd, Nat.reduceMul, Nat.reduceSub, reduceIte, reduceCtorEq, if_true, if_false, ite_true, ite_false, eq_self, forall_const, implies_true, Int.reduceLT, Int.reduceLE, Int.reduceToNat, Int.reduceAdd, Int.reduceSub, Int.reduceNeg, ne_eq, Int.reduceEq, Int.reduceNe, Int.reduceBEq, Int.reduceBNe, beq_self_eq_true, bne_self_eq_false, BitVec.reduceBEq, BitVec.reduceBNe, BitVec.reduceOfInt, BitVec.reduceSetWidth, wrD, engS0, engS1, engS2, engS3, engS4, engS5, engS6, engS7, engS8, engS9, engU0, engT0, engT1, engT2, Fx.t2, Fx.t3, Fx.t4, Fx.t5, Fx.t23, Fx.t52, Fx.t79, Fx.t82, Fx.t83, Fx.t91, Fx.t132, Fx.t133, Fx.t134, Try.results48, Try.ntmps48, symC, Rpt, d1, d2]
    refine ⟨Fx.mixed, .inl ⟨[(0, false), (1, false), (2, false), (3, false), (4, false), (5, false), (6, false), (7, false), (8, false), (9, false), (10, false), (11, false), (12, false), (13, false), (14, false), (15, false), (16, false), (17, false), (18, false), (19, false), (20, false), (21, false), (22, false), (23, false), (24, false)], [], by kernel_rfl, (fun n hn => by cases hn), ?_⟩⟩
    have hg0 : (r.av ++ sp.map AV.val).getD 0 (.int .i64 0) = .int .i64 (r.get 0) := hg
    simp (config := { maxSteps := 1000000, implicitDefEqProofs := false }) only [-List.reduceReplicate, Nat.reduceBEq, renA, renL, renM, renO, evx, evs, evp, Eng.look, cst, cst1, putd, dstOk, params, loadx, partx, loI, hiI, bltx, mmI, boxx, srcx, calx, nilx, upd, del, resv, fillA, setMany, Nat.reduceLT, Nat.reduceLeDiff, Nat.reduceEqDiff, Nat.reduceAdd, Nat.reduceMul, Nat.reduceSub, reduceIte, reduceCtorEq, if_true, if_false, ite_true, ite_false, eq_self, forall_const, implies_true, Int.reduceLT, Int.reduceLE, Int.reduceToNat, Int.reduceAdd, Int.reduceSub, Int.reduceNeg, ne_eq, Int.reduceEq, Int.reduceNe, Int.reduceBEq, Int.reduceBNe, beq_self_eq_true, bne_self_eq_false, BitVec.reduceBEq, BitVec.reduceBNe, BitVec.reduceOfInt, BitVec.reduceSetWidth, wrD, engS0, engS1, engS2, engS3, engS4, engS5, engS6, engS7, engS8, engS9, engU0, engT0, engT1, engT2, Fx.t2, Fx.t3, Fx.t4, Fx.t5, Fx.t23, Fx.t52, Fx.t79, Fx.t82, Fx.t83, Fx.t91, Fx.t132, Fx.t133, Fx.t134, e1, e2, e3, e4, e5, o, q, codO, repRow, hg0, g5, d1, Int.toNat_natCast]
    refine ⟨by show 0 < 4 + sp.length; omega, ?_⟩
    exact R.finU (by omega) (cons_all R hlt _) _
theorem distRpt (R : Rdm wr m nx) (hlt : ∀ p ∈ m, p.1 < nx) (Q : CodAt m nx c lc lp pb st n r cap sp P) (l w : Nat) (hw : w < 4) : CallG false Try.prog 49 [.ptr c 0, .agg (symC (Rpt l w))] wr m nx (Ku (.int .i64 (r.get w)) m nx) := by
  refine fn_okG Try.func49 rfl (by show 2 ≤ _; decide) ?_
  have o := Q.o
  have q := Q.q
  have e1 : (nx = c) = False := eq_false (by have := Q.cn; omega)
  have e2 : (nx = n) = False := eq_false (by have := Q.nn; omega)
  have e3 : decide (nx + 1 ≤ c) = false := decide_eq_false (by have := Q.cn; omega)
  have e4 : decide (nx + 1 ≤ n) = false := decide_eq_false (by have := Q.nn; omega)
  have e5 : decide (nx + 1 ≤ nx) = false := decide_eq_false (by omega)
  have hg := rep_get r (sp.map AV.val) w hw
  simp (config := { maxSteps := 1000000, implicitDefEqProofs := false }) only [-List.reduceReplicate, Nat.reduceBEq, renA, renL, renM, renO, evx, evs, evp, Eng.look, cst, cst1, putd, dstOk, params, loadx, partx, loI, hiI, bltx, mmI, boxx, srcx, calx, nilx, upd, del, resv, fillA, setMany, Nat.reduceLT, Nat.reduceLeDiff, Nat.reduceEqDiff, Nat.reduceAdd, Nat.reduceMul, Nat.reduceSub, reduceIte, reduceCtorEq, if_true, if_false, ite_true, ite_false, eq_self, forall_const, implies_true, Int.reduceLT, Int.reduceLE, Int.reduceToNat, Int.reduceAdd, Int.reduceSub, Int.reduceNeg, ne_eq, Int.reduceEq, Int.reduceNe, Int.reduceBEq, Int.reduceBNe, beq_self_eq_true, bne_self_eq_false, BitVec.reduceBEq, BitVec.reduceBNe, BitVec.reduceOfInt, BitVec.reduceSetWidth, wrD, engS0, engS1, engS2, engS3, engS4, engS5, engS6, engS7, engS8, engS9, engU0, engT0, engT1, engT2, Fx.t3, Fx.t4, Fx.t5, Fx.t52, Fx.t79, Fx.t82, Fx.t83, Fx.t91, Fx.t132, Fx.t133, Fx.t134, Try.results49, Try.ntmps49, symC, Rpt]
  refine ⟨Fx.mixed, .inl ⟨[(0, false), (1, false), (2, false), (3, false), (4, false), (5, false), (6, false), (7, false), (8, false)], [], by kernel_rfl, (fun n hn => by cases hn), ?_⟩⟩
  simp (config := { maxSteps := 1000000, implicitDefEqProofs := false }) only [-List.reduceReplicate, Nat.reduceBEq, renA, renL, renM, renO, evx, evs, evp, Eng.look, cst, cst1, putd, dstOk, params, loadx, partx, loI, hiI, bltx, mmI, boxx, srcx, calx, nilx, upd, del, resv, fillA, setMany, Nat.reduceLT, Nat.reduceLeDiff, Nat.reduceEqDiff, Nat.reduceAdd, Nat.reduceMul, Nat.reduceSub, reduceIte, reduceCtorEq, if_true, if_false, ite_true, ite_false, eq_self, forall_const, implies_true, Int.reduceLT, Int.reduceLE, Int.reduceToNat, Int.reduceAdd, Int.reduceSub, Int.reduceNeg, ne_eq, Int.reduceEq, Int.reduceNe, Int.reduceBEq, Int.reduceBNe, beq_self_eq_true, bne_self_eq_false, BitVec.reduceBEq, BitVec.reduceBNe, BitVec.reduceOfInt, BitVec.reduceSetWidth, wrD, engS0, engS1, engS2, engS3, engS4, engS5, engS6, engS7, engS8, engS9, engU0, engT0, engT1, engT2, Fx.t3, Fx.t4, Fx.t5, Fx.t52, Fx.t79, Fx.t82, Fx.t83, Fx.t91, Fx.t132, Fx.t133, Fx.t134, e1, e2, e3, e4, e5, o, q, codO, repRow, hg, Int.toNat_natCast]
  refine ⟨by omega, by show w < 4 + sp.length; omega, ?_⟩
  exact R.finU (by omega) (cons_all R hlt _) _
theorem plainRpt (R : Rdm wr m nx) (hlt : ∀ p ∈ m, p.1 < nx) (l w : Nat) : CallG false Try.prog 50 [.agg (symC (Rpt l w))] wr m nx (Ku (.agg (symC (Rpt l w))) m nx) := by
  refine fn_okG Try.func50 rfl (by show 1 ≤ _; decide) ?_
  have e1 : (nx + 1 = nx) = False := eq_false (by omega)
  simp (config := { maxSteps := 1000000, implicitDefEqProofs := false }) only [-List.reduceReplicate, Nat.reduceBEq, renA, renL, renM, renO, evx, evs, evp, Eng.look, cst, cst1, putd, dstOk, params, loadx, partx, loI, hiI, bltx, mmI, boxx, srcx, calx, nilx, upd, del, resv, fillA, setMany, Nat.reduceLT, Nat.reduceLeDiff, Nat.reduceEqDiff, Nat.reduceAdd, Nat.reduceMul, Nat.reduceSub, reduceIte, reduceCtorEq, if_true, if_false, ite_true, ite_false, eq_self, forall_const, implies_true, Int.reduceLT, Int.reduceLE, Int.reduceToNat, Int.reduceAdd, Int.reduceSub, Int.reduceNeg, ne_eq, Int.reduceEq, Int.reduceNe, Int.reduceBEq, Int.reduceBNe, beq_self_eq_true, bne_self_eq_false, BitVec.reduceBEq, BitVec.reduceBNe, BitVec.reduceOfInt, BitVec.reduceSetWidth, wrD, engS0, engS1, engS2, engS3, engS4, engS5, engS6, engS7, engS8, engS9, engU0, engT0, engT1, engT2, Fx.t1, Fx.t2, Fx.t3, Fx.t4, Fx.t5, Fx.t82, Fx.t83, Try.results50, Try.ntmps50, symC, Rpt, e1, spl5']
  refine ⟨R.wn _ (by omega), ?_⟩
  exact R.finU (by omega) (cons_all2 R hlt _ _) _
end
end Go.Proofs.Ytmnbbpckglppjaa
