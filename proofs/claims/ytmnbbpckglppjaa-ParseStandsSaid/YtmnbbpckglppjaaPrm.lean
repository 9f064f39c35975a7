/- Parsing: the law on what symbols stand for. -/
import Derived.Test.YtmnbbpckglppjaaEng19
import Derived.Test.YtmnbbpckglppjaaEng26
import Derived.Test.YtmnbbpckglppjaaPrk
import Derived.Test.YtmnbbpckglppjaaPrn
set_option linter.unusedVariables false
set_option linter.unusedSimpArgs false
set_option maxRecDepth 100000
namespace Go.Proofs.Ytmnbbpckglppjaa
open Go Go.Eng

structure PG where
  m : Mem
  N : Nat
  st : Int
  r : R4
  n : Nat
  cap : Nat
  sp : List Value
  P : AV
  h : Nat
  hc : Nat
  hs : List Value
  pos : Nat
structure PQ (d : List (BitVec 8)) (dict nice : Int) (p : Nat) (L : List Sym) (lsp : List Value) (c ln : Nat) (i : Nat) (g : PG) : Prop where
  nd : (g.m.map fun p => p.1).Nodup
  lt : ∀ p ∈ g.m, p.1 < g.N
  q : CodAt g.m g.N c 0 0 0 g.st g.n g.r g.cap g.sp g.P
  st : 0 ≤ g.st ∧ g.st < 12
  hh : Eng.look g.m g.h = some (rowO (d.take g.pos) g.hs)
  hn : g.h < g.N
  hc : g.h ≠ c
  hl : (d.take g.pos).length + g.hs.length = g.hc
  hm : g.hc ≤ maxI
  ll : Eng.look g.m ln = some (symRow L lsp)
  llt : ln < g.N
  lne : ln ≠ c
  p1 : p + i ≤ g.pos
  p2 : g.pos ≤ d.length
  sy : L.drop i = (symsF d dict nice d.length (d.length - p - i) g.pos g.r).1
theorem PQ.rdm {d : List (BitVec 8)} {dict nice : Int} {p : Nat} {L : List Sym} {lsp : List Value} {c ln i : Nat} {g : PG} (h : PQ d dict nice p L lsp c ln i g) : Rdm (fun _ => true) g.m g.N := rdmT h.nd
set_option maxHeartbeats 8000000 in
theorem parseStandsOk (d : List (BitVec 8)) (hd : d.length ≤ maxLen) (fr : Int) (hfl : -9223372036854775808 ≤ fr) (hfr : fr < 9223372036854775808) (dict : Int) (hdictl : -9223372036854775808 ≤ dict) (hdictr : dict < 9223372036854775808) (nice : Int) (hnicel : -9223372036854775808 ≤ nice) (hnicer : nice < 9223372036854775808) :
    CallOk Try.prog 10 [.ro d.length (bvs .u8 d), .int .i64 fr, .int .i64 dict, .int .i64 nice] (fun _ => true) [] 0 fun v _ _ => v = .bool true := by
  refine fn_ok Try.func10 rfl (by show 4 ≤ _; decide) ?_
  have fin : ∀ {m : Mem} {nx : Nat}, Eng.Fin 0 (fun _ => true) m nx (fun v _ _ => v = .bool true) (.bool true) := Fin.flatv (fun _ => rfl) (fun _ => rfl) rfl
  rcases Decidable.em (300 < d.length) with h1 | h1
  · have e1 : decide ((d.length : Int) > 300) = true := by simp; omega
    simp (config := { maxSteps := 1000000, implicitDefEqProofs := false }) only [-List.reduceReplicate, Nat.reduceBEq, renA, renL, renM, renO, evx, evs, evp, Eng.look, cst, cst1, putd, dstOk, params, loadx, partx, loI, hiI, bltx, mmI, boxx, srcx, calx, nilx, upd, del, resv, fillA, setMany, Nat.reduceLT, Nat.reduceLeDiff, Nat.reduceEqDiff, Nat.reduceAdd, Nat.reduceMul, Nat.reduceSub, reduceIte, reduceCtorEq, if_true, if_false, ite_true, ite_false, eq_self, forall_const, implies_true, Int.reduceLT, Int.reduceLE, Int.reduceToNat, Int.reduceAdd, Int.reduceSub, Int.reduceNeg, ne_eq, Int.reduceEq, Int.reduceNe, Int.reduceBEq, Int.reduceBNe, beq_self_eq_true, bne_self_eq_false, BitVec.reduceBEq, BitVec.reduceBNe, BitVec.reduceOfInt, BitVec.reduceSetWidth, wrD, engS0, engS1, engS2, engS3, engS4, engS5, engS6, engS7, engS8, engS9, engU0, engT0, engT1, engT2, Fx.t1, Fx.t2, Fx.t3, Fx.t4, Fx.t5, Fx.t9, Fx.t23, Fx.t25, Fx.t35, Fx.t52, Fx.t75, Fx.t76, Fx.t79, Fx.t82, Fx.t83, Fx.t91, Fx.t109, Fx.t110, Fx.t111, Fx.t112, Fx.t113, Fx.t132, Fx.t133, Fx.t134, Fx.en20, Fx.en45, Fx.en46, Fx.en47, Fx.en48, Fx.en49, Fx.en50, Fx.en51, Fx.en52, Try.results10, Try.ntmps10, e1]
    refine kn10 ?_
    simp (config := { maxSteps := 1000000, implicitDefEqProofs := false }) only [-List.reduceReplicate, Nat.reduceBEq, renA, renL, renM, renO, evx, evs, evp, Eng.look, cst, cst1, putd, dstOk, params, loadx, partx, loI, hiI, bltx, mmI, boxx, srcx, calx, nilx, upd, del, resv, fillA, setMany, Nat.reduceLT, Nat.reduceLeDiff, Nat.reduceEqDiff, Nat.reduceAdd, Nat.reduceMul, Nat.reduceSub, reduceIte, reduceCtorEq, if_true, if_false, ite_true, ite_false, eq_self, forall_const, implies_true, Int.reduceLT, Int.reduceLE, Int.reduceToNat, Int.reduceAdd, Int.reduceSub, Int.reduceNeg, ne_eq, Int.reduceEq, Int.reduceNe, Int.reduceBEq, Int.reduceBNe, beq_self_eq_true, bne_self_eq_false, BitVec.reduceBEq, BitVec.reduceBNe, BitVec.reduceOfInt, BitVec.reduceSetWidth, wrD, engS0, engS1, engS2, engS3, engS4, engS5, engS6, engS7, engS8, engS9, engU0, engT0, engT1, engT2, Fx.t1, Fx.t2, Fx.t3, Fx.t4, Fx.t5, Fx.t9, Fx.t23, Fx.t25, Fx.t35, Fx.t52, Fx.t75, Fx.t76, Fx.t79, Fx.t82, Fx.t83, Fx.t91, Fx.t109, Fx.t110, Fx.t111, Fx.t112, Fx.t113, Fx.t132, Fx.t133, Fx.t134, Fx.en20, Fx.en45, Fx.en46, Fx.en47, Fx.en48, Fx.en49, Fx.en50, Fx.en51, Fx.en52]
    exact fin
  have e1 : decide ((d.length : Int) > 300) = false := by simp; omega
  rcases Int.lt_or_le fr 0 with h2 | h2
  · have e2 : decide (fr < 0) = true := decide_eq_true h2
    simp (config := { maxSteps := 1000000, implicitDefEqProofs := false }) only [-List.reduceReplicate, Nat.reduceBEq, renA, renL, renM, renO, evx, evs, evp, Eng.look, cst, cst1, putd, dstOk, params, loadx, partx, loI, hiI, bltx, mmI, boxx, srcx, calx, nilx, upd, del, resv, fillA, setMany, Nat.reduceLT, Nat.reduceLeDiff, Nat.reduceEqDiff, Nat.reduceAdd, Nat.reduceMul, Nat.reduceSub, reduceIte, reduceCtorEq, if_true, if_false, ite_true, ite_false, eq_self, forall_const, implies_true, Int.reduceLT, Int.reduceLE, Int.reduceToNat, Int.reduceAdd, Int.reduceSub, Int.reduceNeg, ne_eq, Int.reduceEq, Int.reduceNe, Int.reduceBEq, Int.reduceBNe, beq_self_eq_true, bne_self_eq_false, BitVec.reduceBEq, BitVec.reduceBNe, BitVec.reduceOfInt, BitVec.reduceSetWidth, wrD, engS0, engS1, engS2, engS3, engS4, engS5, engS6, engS7, engS8, engS9, engU0, engT0, engT1, engT2, Fx.t1, Fx.t2, Fx.t3, Fx.t4, Fx.t5, Fx.t9, Fx.t23, Fx.t25, Fx.t35, Fx.t52, Fx.t75, Fx.t76, Fx.t79, Fx.t82, Fx.t83, Fx.t91, Fx.t109, Fx.t110, Fx.t111, Fx.t112, Fx.t113, Fx.t132, Fx.t133, Fx.t134, Fx.en20, Fx.en45, Fx.en46, Fx.en47, Fx.en48, Fx.en49, Fx.en50, Fx.en51, Fx.en52, Try.results10, Try.ntmps10, e1, e2]
    refine kn10 ?_
    simp (config := { maxSteps := 1000000, implicitDefEqProofs := false }) only [-List.reduceReplicate, Nat.reduceBEq, renA, renL, renM, renO, evx, evs, evp, Eng.look, cst, cst1, putd, dstOk, params, loadx, partx, loI, hiI, bltx, mmI, boxx, srcx, calx, nilx, upd, del, resv, fillA, setMany, Nat.reduceLT, Nat.reduceLeDiff, Nat.reduceEqDiff, Nat.reduceAdd, Nat.reduceMul, Nat.reduceSub, reduceIte, reduceCtorEq, if_true, if_false, ite_true, ite_false, eq_self, forall_const, implies_true, Int.reduceLT, Int.reduceLE, Int.reduceToNat, Int.reduceAdd, Int.reduceSub, Int.reduceNeg, ne_eq, Int.reduceEq, Int.reduceNe, Int.reduceBEq, Int.reduceBNe, beq_self_eq_true, bne_self_eq_false, BitVec.reduceBEq, BitVec.reduceBNe, BitVec.reduceOfInt, BitVec.reduceSetWidth, wrD, engS0, engS1, engS2, engS3, engS4, engS5, engS6, engS7, engS8, engS9, engU0, engT0, engT1, engT2, Fx.t1, Fx.t2, Fx.t3, Fx.t4, Fx.t5, Fx.t9, Fx.t23, Fx.t25, Fx.t35, Fx.t52, Fx.t75, Fx.t76, Fx.t79, Fx.t82, Fx.t83, Fx.t91, Fx.t109, Fx.t110, Fx.t111, Fx.t112, Fx.t113, Fx.t132, Fx.t133, Fx.t134, Fx.en20, Fx.en45, Fx.en46, Fx.en47, Fx.en48, Fx.en49, Fx.en50, Fx.en51, Fx.en52]
    exact fin
  have e2 : decide (fr < 0) = false := decide_eq_false (by omega)
  rcases Int.lt_or_le (d.length : Int) fr with h3 | h3
  · have e3 : decide (fr > (d.length : Int)) = true := decide_eq_true h3
    simp (config := { maxSteps := 1000000, implicitDefEqProofs := false }) only [-List.reduceReplicate, Nat.reduceBEq, renA, renL, renM, renO, evx, evs, evp, Eng.look, cst, cst1, putd, dstOk, params, loadx, partx, loI, hiI, bltx, mmI, boxx, srcx, calx, nilx, upd, del, resv, fillA, setMany, Nat.reduceLT, Nat.reduceLeDiff, Nat.reduceEqDiff, Nat.reduceAdd, Nat.reduceMul, Nat.reduceSub, reduceIte, reduceCtorEq, if_true, if_false, ite_true, ite_false, eq_self, forall_const, implies_true, Int.reduceLT, Int.reduceLE, Int.reduceToNat, Int.reduceAdd, Int.reduceSub, Int.reduceNeg, ne_eq, Int.reduceEq, Int.reduceNe, Int.reduceBEq, Int.reduceBNe, beq_self_eq_true, bne_self_eq_false, BitVec.reduceBEq, BitVec.reduceBNe, BitVec.reduceOfInt, BitVec.reduceSetWidth, wrD, engS0, engS1, engS2, engS3, engS4, engS5, engS6, engS7, engS8, engS9, engU0, engT0, engT1, engT2, Fx.t1, Fx.t2, Fx.t3, Fx.t4, Fx.t5, Fx.t9, Fx.t23, Fx.t25, Fx.t35, Fx.t52, Fx.t75, Fx.t76, Fx.t79, Fx.t82, Fx.t83, Fx.t91, Fx.t109, Fx.t110, Fx.t111, Fx.t112, Fx.t113, Fx.t132, Fx.t133, Fx.t134, Fx.en20, Fx.en45, Fx.en46, Fx.en47, Fx.en48, Fx.en49, Fx.en50, Fx.en51, Fx.en52, Try.results10, Try.ntmps10, e1, e2, e3]
    refine kn10 ?_
    simp (config := { maxSteps := 1000000, implicitDefEqProofs := false }) only [-List.reduceReplicate, Nat.reduceBEq, renA, renL, renM, renO, evx, evs, evp, Eng.look, cst, cst1, putd, dstOk, params, loadx, partx, loI, hiI, bltx, mmI, boxx, srcx, calx, nilx, upd, del, resv, fillA, setMany, Nat.reduceLT, Nat.reduceLeDiff, Nat.reduceEqDiff, Nat.reduceAdd, Nat.reduceMul, Nat.reduceSub, reduceIte, reduceCtorEq, if_true, if_false, ite_true, ite_false, eq_self, forall_const, implies_true, Int.reduceLT, Int.reduceLE, Int.reduceToNat, Int.reduceAdd, Int.reduceSub, Int.reduceNeg, ne_eq, Int.reduceEq, Int.reduceNe, Int.reduceBEq, Int.reduceBNe, beq_self_eq_true, bne_self_eq_false, BitVec.reduceBEq, BitVec.reduceBNe, BitVec.reduceOfInt, BitVec.reduceSetWidth, wrD, engS0, engS1, engS2, engS3, engS4, engS5, engS6, engS7, engS8, engS9, engU0, engT0, engT1, engT2, Fx.t1, Fx.t2, Fx.t3, Fx.t4, Fx.t5, Fx.t9, Fx.t23, Fx.t25, Fx.t35, Fx.t52, Fx.t75, Fx.t76, Fx.t79, Fx.t82, Fx.t83, Fx.t91, Fx.t109, Fx.t110, Fx.t111, Fx.t112, Fx.t113, Fx.t132, Fx.t133, Fx.t134, Fx.en20, Fx.en45, Fx.en46, Fx.en47, Fx.en48, Fx.en49, Fx.en50, Fx.en51, Fx.en52]
    exact fin
  have e3 : decide (fr > (d.length : Int)) = false := decide_eq_false (by omega)
  obtain ⟨p, rfl⟩ : ∃ p : Nat, fr = (p : Int) := ⟨fr.toNat, by omega⟩
  simp (config := { maxSteps := 1000000, implicitDefEqProofs := false }) only [-List.reduceReplicate, Nat.reduceBEq, renA, renL, renM, renO, evx, evs, evp, Eng.look, cst, cst1, putd, dstOk, params, loadx, partx, loI, hiI, bltx, mmI, boxx, srcx, calx, nilx, upd, del, resv, fillA, setMany, Nat.reduceLT, Nat.reduceLeDiff, Nat.reduceEqDiff, Nat.reduceAdd, Nat.reduceMul, Nat.reduceSub, reduceIte, reduceCtorEq, if_true, if_false, ite_true, ite_false, eq_self, forall_const, implies_true, Int.reduceLT, Int.reduceLE, Int.reduceToNat, Int.reduceAdd, Int.reduceSub, Int.reduceNeg, ne_eq, Int.reduceEq, Int.reduceNe, Int.reduceBEq, Int.reduceBNe, beq_self_eq_true, bne_self_eq_false, BitVec.reduceBEq, BitVec.reduceBNe, BitVec.reduceOfInt, BitVec.reduceSetWidth, wrD, engS0, engS1, engS2, engS3, engS4, engS5, engS6, engS7, engS8, engS9, engU0, engT0, engT1, engT2, Fx.t1, Fx.t2, Fx.t3, Fx.t4, Fx.t5, Fx.t9, Fx.t23, Fx.t25, Fx.t35, Fx.t52, Fx.t75, Fx.t76, Fx.t79, Fx.t82, Fx.t83, Fx.t91, Fx.t109, Fx.t110, Fx.t111, Fx.t112, Fx.t113, Fx.t132, Fx.t133, Fx.t134, Fx.en20, Fx.en45, Fx.en46, Fx.en47, Fx.en48, Fx.en49, Fx.en50, Fx.en51, Fx.en52, Try.results10, Try.ntmps10, e1, e2, e3]
  refine callNew (d := d) (dict := dict) (nice := nice) (by omega) (by simp only [argsx, argx_int, argx_bool, argx_fn, argx_ro, argx_nils, eq_self, true_and, and_true, and_self]; try trivial) List.nodup_nil (fun _ h => by cases h) ?_ ?_
  · intro hb
    simp (config := { maxSteps := 1000000, implicitDefEqProofs := false }) only [-List.reduceReplicate, Nat.reduceBEq, renA, renL, renM, renO, evx, evs, evp, Eng.look, cst, cst1, putd, dstOk, params, loadx, partx, loI, hiI, bltx, mmI, boxx, srcx, calx, nilx, upd, del, resv, fillA, setMany, Nat.reduceLT, Nat.reduceLeDiff, Nat.reduceEqDiff, Nat.reduceAdd, Nat.reduceMul, Nat.reduceSub, reduceIte, reduceCtorEq, if_true, if_false, ite_true, ite_false, eq_self, forall_const, implies_true, Int.reduceLT, Int.reduceLE, Int.reduceToNat, Int.reduceAdd, Int.reduceSub, Int.reduceNeg, ne_eq, Int.reduceEq, Int.reduceNe, Int.reduceBEq, Int.reduceBNe, beq_self_eq_true, bne_self_eq_false, BitVec.reduceBEq, BitVec.reduceBNe, BitVec.reduceOfInt, BitVec.reduceSetWidth, wrD, engS0, engS1, engS2, engS3, engS4, engS5, engS6, engS7, engS8, engS9, engU0, engT0, engT1, engT2, Fx.t1, Fx.t2, Fx.t3, Fx.t4, Fx.t5, Fx.t9, Fx.t23, Fx.t25, Fx.t35, Fx.t52, Fx.t75, Fx.t76, Fx.t79, Fx.t82, Fx.t83, Fx.t91, Fx.t109, Fx.t110, Fx.t111, Fx.t112, Fx.t113, Fx.t132, Fx.t133, Fx.t134, Fx.en20, Fx.en45, Fx.en46, Fx.en47, Fx.en48, Fx.en49, Fx.en50, Fx.en51, Fx.en52]
    refine kn10 ?_
    simp (config := { maxSteps := 1000000, implicitDefEqProofs := false }) only [-List.reduceReplicate, Nat.reduceBEq, renA, renL, renM, renO, evx, evs, evp, Eng.look, cst, cst1, putd, dstOk, params, loadx, partx, loI, hiI, bltx, mmI, boxx, srcx, calx, nilx, upd, del, resv, fillA, setMany, Nat.reduceLT, Nat.reduceLeDiff, Nat.reduceEqDiff, Nat.reduceAdd, Nat.reduceMul, Nat.reduceSub, reduceIte, reduceCtorEq, if_true, if_false, ite_true, ite_false, eq_self, forall_const, implies_true, Int.reduceLT, Int.reduceLE, Int.reduceToNat, Int.reduceAdd, Int.reduceSub, Int.reduceNeg, ne_eq, Int.reduceEq, Int.reduceNe, Int.reduceBEq, Int.reduceBNe, beq_self_eq_true, bne_self_eq_false, BitVec.reduceBEq, BitVec.reduceBNe, BitVec.reduceOfInt, BitVec.reduceSetWidth, wrD, engS0, engS1, engS2, engS3, engS4, engS5, engS6, engS7, engS8, engS9, engU0, engT0, engT1, engT2, Fx.t1, Fx.t2, Fx.t3, Fx.t4, Fx.t5, Fx.t9, Fx.t23, Fx.t25, Fx.t35, Fx.t52, Fx.t75, Fx.t76, Fx.t79, Fx.t82, Fx.t83, Fx.t91, Fx.t109, Fx.t110, Fx.t111, Fx.t112, Fx.t113, Fx.t132, Fx.t133, Fx.t134, Fx.en20, Fx.en45, Fx.en46, Fx.en47, Fx.en48, Fx.en49, Fx.en50, Fx.en51, Fx.en52]
    exact fin
  intro hb a m nx F n1 n2 n3 _
  simp (config := { maxSteps := 1000000, implicitDefEqProofs := false }) only [-List.reduceReplicate, Nat.reduceBEq, renA, renL, renM, renO, evx, evs, evp, Eng.look, cst, cst1, putd, dstOk, params, loadx, partx, loI, hiI, bltx, mmI, boxx, srcx, calx, nilx, upd, del, resv, fillA, setMany, Nat.reduceLT, Nat.reduceLeDiff, Nat.reduceEqDiff, Nat.reduceAdd, Nat.reduceMul, Nat.reduceSub, reduceIte, reduceCtorEq, if_true, if_false, ite_true, ite_false, eq_self, forall_const, implies_true, Int.reduceLT, Int.reduceLE, Int.reduceToNat, Int.reduceAdd, Int.reduceSub, Int.reduceNeg, ne_eq, Int.reduceEq, Int.reduceNe, Int.reduceBEq, Int.reduceBNe, beq_self_eq_true, bne_self_eq_false, BitVec.reduceBEq, BitVec.reduceBNe, BitVec.reduceOfInt, BitVec.reduceSetWidth, wrD, engS0, engS1, engS2, engS3, engS4, engS5, engS6, engS7, engS8, engS9, engU0, engT0, engT1, engT2, Fx.t1, Fx.t2, Fx.t3, Fx.t4, Fx.t5, Fx.t9, Fx.t23, Fx.t25, Fx.t35, Fx.t52, Fx.t75, Fx.t76, Fx.t79, Fx.t82, Fx.t83, Fx.t91, Fx.t109, Fx.t110, Fx.t111, Fx.t112, Fx.t113, Fx.t132, Fx.t133, Fx.t134, Fx.en20, Fx.en45, Fx.en46, Fx.en47, Fx.en48, Fx.en49, Fx.en50, Fx.en51, Fx.en52, bne_self_eq_false]
  have hC := symbolsOk (rdmT n1) n2 F (by omega) p d.length (by omega) (Nat.le_refl _) (by omega) ⟨1, 1, 1, 1⟩
  refine CallG.weak (CallG.any (show CallG false Try.prog 46 _ (fun _ => true) _ nx _ from hC)) ?_
  rintro v m2 nx2 ⟨o, rfl, ho, rfl, hx⟩
  obtain ⟨L, hL⟩ : ∃ L, L = (symsF d dict nice d.length (d.length - p) p ⟨1, 1, 1, 1⟩).1 := ⟨_, rfl⟩
  obtain ⟨r9, hr9⟩ : ∃ r9, r9 = (symsF d dict nice d.length (d.length - p) p ⟨1, 1, 1, 1⟩).2 := ⟨_, rfl⟩
  rw [← hL] at ho ⊢
  rw [← hr9]
  simp (config := { maxSteps := 1000000, implicitDefEqProofs := false }) only [-List.reduceReplicate, Nat.reduceBEq, renA, renL, renM, renO, evx, evs, evp, Eng.look, cst, cst1, putd, dstOk, params, loadx, partx, loI, hiI, bltx, mmI, boxx, srcx, calx, nilx, upd, del, resv, fillA, setMany, Nat.reduceLT, Nat.reduceLeDiff, Nat.reduceEqDiff, Nat.reduceAdd, Nat.reduceMul, Nat.reduceSub, reduceIte, reduceCtorEq, if_true, if_false, ite_true, ite_false, eq_self, forall_const, implies_true, Int.reduceLT, Int.reduceLE, Int.reduceToNat, Int.reduceAdd, Int.reduceSub, Int.reduceNeg, ne_eq, Int.reduceEq, Int.reduceNe, Int.reduceBEq, Int.reduceBNe, beq_self_eq_true, bne_self_eq_false, BitVec.reduceBEq, BitVec.reduceBNe, BitVec.reduceOfInt, BitVec.reduceSetWidth, wrD, engS0, engS1, engS2, engS3, engS4, engS5, engS6, engS7, engS8, engS9, engU0, engT0, engT1, engT2, Fx.t1, Fx.t2, Fx.t3, Fx.t4, Fx.t5, Fx.t9, Fx.t23, Fx.t25, Fx.t35, Fx.t52, Fx.t75, Fx.t76, Fx.t79, Fx.t82, Fx.t83, Fx.t91, Fx.t109, Fx.t110, Fx.t111, Fx.t112, Fx.t113, Fx.t132, Fx.t133, Fx.t134, Fx.en20, Fx.en45, Fx.en46, Fx.en47, Fx.en48, Fx.en49, Fx.en50, Fx.en51, Fx.en52, R4.av]
  have hMnd : ((outM L o ++ m).map fun p => p.1).Nodup := by
    rcases o with _ | ⟨n, cap, sp⟩
    · exact n1
    · have hn : nx ≤ n := ho.1
      exact (Rdm.consN (rdmT n1 (nx := nx)) (n := n) (fun x hx => by have := n2 x hx; omega) (symRow L sp)).nd
  have hMlt : ∀ x ∈ outM L o ++ m, x.1 < nx2 := fun x hx => by
    rcases o with _ | ⟨n, cap, sp⟩
    · have := n2 x hx; omega
    · have hn : n < nx2 := ho.2.1
      rcases List.mem_cons.1 hx with rfl | hx
      · exact hn
      · have := n2 x hx; omega
  have R1 := (rdmT hMnd (nx := nx2)).cons hMlt (.cells (spl (List.replicate 4 (AV.int .i64 0)) 0 [.int .i64 r9.a, .int .i64 r9.b, .int .i64 r9.c, .int .i64 r9.d]) 76)
  have lt1 := cons_lt hMlt (.cells (spl (List.replicate 4 (AV.int .i64 0)) 0 [.int .i64 r9.a, .int .i64 r9.b, .int .i64 r9.c, .int .i64 r9.d]) 76)
  have hkeep : ∀ k X, Eng.look (outM L o) k = some X → Eng.look ((nx2, AObj.cells (spl (List.replicate 4 (AV.int .i64 0)) 0 [.int .i64 r9.a, .int .i64 r9.b, .int .i64 r9.c, .int .i64 r9.d]) 76) :: (outM L o ++ m)) k = some X := fun k X hk => by
    obtain ⟨y, hy, e⟩ := look_lt hk
    have := hMlt y (List.mem_append_left _ hy)
    rw [look_cons, if_neg (by omega), look_app, hk]; rfl
  generalize ((nx2, AObj.cells (spl (List.replicate 4 (AV.int .i64 0)) 0 [.int .i64 r9.a, .int .i64 r9.b, .int .i64 r9.c, .int .i64 r9.d]) 76) :: (outM L o ++ m)) = M1 at R1 lt1 hkeep
  obtain ⟨k, hk⟩ : ∃ k, k = nx2 + 1 := ⟨_, rfl⟩
  rw [← hk] at R1 lt1 ⊢
  refine (new07Ok 0 0 0 0 rfl (by decide)).newE rfl ?_
  rintro v m7 nx7 ⟨o7, hq7, rfl, rfl, h7⟩
  obtain ⟨m7, hm7⟩ : ∃ m7, m7 = chM (fresh07 0) o7 ++ [(1, codO 0 0 0 0 (.sl 0 0 4 4) (chA (fresh07 0) o7)), (0, repRow ⟨1, 1, 1, 1⟩ [])] := ⟨_, rfl⟩
  have nd7 : (m7.map fun p => p.1).Nodup := by
    rw [hm7]
    rcases o7 with _ | ⟨n, cap, sp⟩
    · show ([1, 0] : List Nat).Nodup; decide
    · have hn : 2 ≤ n := hq7.1
      show ([n, 1, 0] : List Nat).Nodup
      simp; omega
  have lt7 : ∀ x ∈ m7, x.1 < nx7 := fun x hx => by
    rw [hm7] at hx
    rcases o7 with _ | ⟨n, cap, sp⟩
    · rcases List.mem_cons.1 hx with rfl | hx
      · show 1 < nx7; omega
      · rw [List.mem_singleton] at hx; subst hx; show 0 < nx7; omega
    · have hn : n < nx7 := hq7.2.1
      rcases List.mem_cons.1 hx with rfl | hx
      · exact hn
      rcases List.mem_cons.1 hx with rfl | hx
      · show 1 < nx7; omega
      · rw [List.mem_singleton] at hx; subst hx; show 0 < nx7; omega
  have l71 : Eng.look m7 1 = some (codO 0 0 0 0 (.sl 0 0 4 4) (chA (fresh07 0) o7)) := by
    rw [hm7]
    rcases o7 with _ | ⟨n, cap, sp⟩
    · rfl
    · have hn : 2 ≤ n := hq7.1
      show Eng.look ((n, _) :: _) 1 = _
      rw [look_cons, if_neg (by omega)]; rfl
  have l70 : Eng.look m7 0 = some (repRow ⟨1, 1, 1, 1⟩ []) := by
    rw [hm7]
    rcases o7 with _ | ⟨n, cap, sp⟩
    · rfl
    · have hn : 2 ≤ n := hq7.1
      show Eng.look ((n, _) :: _) 0 = _
      rw [look_cons, if_neg (by omega)]; rfl
  rw [← hm7]
  have Q7 : CodAt (renM (fun n => n + k) m7 ++ M1) (k + nx7) (1 + k) 0 0 0 0 (0 + k) ⟨1, 1, 1, 1⟩ 4 [] (renA (fun n => n + k) (chA (fresh07 0) o7)) :=
    ⟨by rw [look_ren_hi _ _ _ _ lt1, l71]; rfl, by rw [look_ren_hi _ _ _ _ lt1, l70]; rfl, by omega, by omega, by omega⟩
  have nd2 := ren_nodup nd7 R1.nd lt1
  have lt2 := ren_lt lt7 lt1
  have hkeep2 : ∀ j X, Eng.look (outM L o) j = some X → Eng.look (renM (fun n => n + k) m7 ++ M1) j = some X := fun j X hj => by
    have h1 := hkeep j X hj
    obtain ⟨y, hy, e⟩ := look_lt h1
    have := lt1 y hy
    rw [look_ren_low _ _ _ _ (by omega)]; exact h1
  generalize renM (fun n => n + k) m7 ++ M1 = M2 at Q7 nd2 lt2 hkeep2
  obtain ⟨N2, hN2⟩ : ∃ N2, N2 = k + nx7 := ⟨_, rfl⟩
  rw [← hN2] at Q7 lt2 ⊢
  simp only [renA]
  have dl : del M2 N2 = M2 := del_none fun x hx => by have := lt2 x hx; omega
  simp (config := { maxSteps := 1000000, implicitDefEqProofs := false }) only [-List.reduceReplicate, Nat.reduceBEq, renA, renL, renM, renO, evx, evs, evp, Eng.look, cst, cst1, putd, dstOk, params, loadx, partx, loI, hiI, bltx, mmI, boxx, srcx, calx, nilx, upd, del, resv, fillA, setMany, Nat.reduceLT, Nat.reduceLeDiff, Nat.reduceEqDiff, Nat.reduceAdd, Nat.reduceMul, Nat.reduceSub, reduceIte, reduceCtorEq, if_true, if_false, ite_true, ite_false, eq_self, forall_const, implies_true, Int.reduceLT, Int.reduceLE, Int.reduceToNat, Int.reduceAdd, Int.reduceSub, Int.reduceNeg, ne_eq, Int.reduceEq, Int.reduceNe, Int.reduceBEq, Int.reduceBNe, beq_self_eq_true, bne_self_eq_false, BitVec.reduceBEq, BitVec.reduceBNe, BitVec.reduceOfInt, BitVec.reduceSetWidth, wrD, engS0, engS1, engS2, engS3, engS4, engS5, engS6, engS7, engS8, engS9, engU0, engT0, engT1, engT2, Fx.t1, Fx.t2, Fx.t3, Fx.t4, Fx.t5, Fx.t9, Fx.t23, Fx.t25, Fx.t35, Fx.t52, Fx.t75, Fx.t76, Fx.t79, Fx.t82, Fx.t83, Fx.t91, Fx.t109, Fx.t110, Fx.t111, Fx.t112, Fx.t113, Fx.t132, Fx.t133, Fx.t134, Fx.en20, Fx.en45, Fx.en46, Fx.en47, Fx.en48, Fx.en49, Fx.en50, Fx.en51, Fx.en52]
  have tp : List.take (p - 0) (List.take (p - 0) d) = d.take p := by rw [Nat.sub_zero, List.take_take, Nat.min_self]
  have tpl : (d.take p).length = p := by rw [List.length_take]; omega
  rw [tp, Nat.sub_zero]
  refine ⟨.inl trivial, by omega, tpl, ?_⟩
  rw [show (p, bvs IntKind.u8 (d.take p)) = ((d.take p).length, bvs IntKind.u8 (d.take p)) by rw [tpl]]
  refine appk_bvs (k := .u8) (x := ([] : List (BitVec 8))) (y := d.take p) (sp := []) (cap := 0) (bt := 1) (by rw [look_cons, if_pos rfl]; rfl) rfl rfl (by decide) (by decide) (by rw [List.length_nil]; omega) ?_
  intro hc0 hs0 d1 d2
  rw [List.nil_append] at d1 ⊢
  simp (config := { maxSteps := 1000000, implicitDefEqProofs := false }) only [-List.reduceReplicate, Nat.reduceBEq, renA, renL, renM, renO, evx, evs, evp, Eng.look, cst, cst1, putd, dstOk, params, loadx, partx, loI, hiI, bltx, mmI, boxx, srcx, calx, nilx, upd, del, resv, fillA, setMany, Nat.reduceLT, Nat.reduceLeDiff, Nat.reduceEqDiff, Nat.reduceAdd, Nat.reduceMul, Nat.reduceSub, reduceIte, reduceCtorEq, if_true, if_false, ite_true, ite_false, eq_self, forall_const, implies_true, Int.reduceLT, Int.reduceLE, Int.reduceToNat, Int.reduceAdd, Int.reduceSub, Int.reduceNeg, ne_eq, Int.reduceEq, Int.reduceNe, Int.reduceBEq, Int.reduceBNe, beq_self_eq_true, bne_self_eq_false, BitVec.reduceBEq, BitVec.reduceBNe, BitVec.reduceOfInt, BitVec.reduceSetWidth, wrD, engS0, engS1, engS2, engS3, engS4, engS5, engS6, engS7, engS8, engS9, engU0, engT0, engT1, engT2, Fx.t1, Fx.t2, Fx.t3, Fx.t4, Fx.t5, Fx.t9, Fx.t23, Fx.t25, Fx.t35, Fx.t52, Fx.t75, Fx.t76, Fx.t79, Fx.t82, Fx.t83, Fx.t91, Fx.t109, Fx.t110, Fx.t111, Fx.t112, Fx.t113, Fx.t132, Fx.t133, Fx.t134, Fx.en20, Fx.en45, Fx.en46, Fx.en47, Fx.en48, Fx.en49, Fx.en50, Fx.en51, Fx.en52, dl]
  rcases o with _ | ⟨ln, lcap, lsp⟩
  · have hL0 : L = [] := ho
    have hpd : p = d.length := by
      rcases Nat.lt_or_ge p d.length with h | h
      · exfalso
        rw [hL0] at hL
        obtain ⟨k, hk⟩ : ∃ k, d.length - p = k + 1 := ⟨d.length - p - 1, by omega⟩
        rw [hk, symsF, if_pos h] at hL
        cases hL
      · omega
    have lk0 : Eng.look ((N2 + 1, AObj.cells (bvs .u8 (d.take p) ++ hs0.map AV.val) 5) :: M2) (N2 + 1) = some (.cells (bvs .u8 (d.take p) ++ hs0.map AV.val) 5) := by rw [look_cons, if_pos rfl]
    refine LoopOk.up 0 (fun _ => ([(16, .int .i64 0), (15, .sl (N2 + 1) 0 (d.take p).length hc0), (11, .nils), (0, .ro d.length (bvs .u8 d))], (N2 + 1, AObj.cells (bvs .u8 (d.take p) ++ hs0.map AV.val) 5) :: M2, N2 + 1 + 1)) ?_ ?_
    · have RS := ((rdmT nd2 (nx := N2)).up (Nat.le_succ _)).cons (fun x hx => by have := lt2 x hx; omega) (AObj.cells (bvs .u8 (d.take p) ++ hs0.map AV.val) 5)
      exact Le.same (Nat.zero_le _) ⟨rfl, rfl, rfl, rfl, trivial⟩ (memSame_slf RS.nd) RS.nd (fun _ _ => rfl) (fun _ e => by cases e)
    intro i hi
    simp (config := { maxSteps := 1000000, implicitDefEqProofs := false }) only [-List.reduceReplicate, Nat.reduceBEq, renA, renL, renM, renO, evx, evs, evp, Eng.look, cst, cst1, putd, dstOk, params, loadx, partx, loI, hiI, bltx, mmI, boxx, srcx, calx, nilx, upd, del, resv, fillA, setMany, Nat.reduceLT, Nat.reduceLeDiff, Nat.reduceEqDiff, Nat.reduceAdd, Nat.reduceMul, Nat.reduceSub, reduceIte, reduceCtorEq, if_true, if_false, ite_true, ite_false, eq_self, forall_const, implies_true, Int.reduceLT, Int.reduceLE, Int.reduceToNat, Int.reduceAdd, Int.reduceSub, Int.reduceNeg, ne_eq, Int.reduceEq, Int.reduceNe, Int.reduceBEq, Int.reduceBNe, beq_self_eq_true, bne_self_eq_false, BitVec.reduceBEq, BitVec.reduceBNe, BitVec.reduceOfInt, BitVec.reduceSetWidth, wrD, engS0, engS1, engS2, engS3, engS4, engS5, engS6, engS7, engS8, engS9, engU0, engT0, engT1, engT2, Fx.t1, Fx.t2, Fx.t3, Fx.t4, Fx.t5, Fx.t9, Fx.t23, Fx.t25, Fx.t35, Fx.t52, Fx.t75, Fx.t76, Fx.t79, Fx.t82, Fx.t83, Fx.t91, Fx.t109, Fx.t110, Fx.t111, Fx.t112, Fx.t113, Fx.t132, Fx.t133, Fx.t134, Fx.en20, Fx.en45, Fx.en46, Fx.en47, Fx.en48, Fx.en49, Fx.en50, Fx.en51, Fx.en52, lk0, List.drop_zero, u8T, hpd, List.take_length, beq_self_eq_true]
    refine ⟨Nat.le_add_right _ _, ?_⟩
    refine kn10 ?_
    simp (config := { maxSteps := 1000000, implicitDefEqProofs := false }) only [-List.reduceReplicate, Nat.reduceBEq, renA, renL, renM, renO, evx, evs, evp, Eng.look, cst, cst1, putd, dstOk, params, loadx, partx, loI, hiI, bltx, mmI, boxx, srcx, calx, nilx, upd, del, resv, fillA, setMany, Nat.reduceLT, Nat.reduceLeDiff, Nat.reduceEqDiff, Nat.reduceAdd, Nat.reduceMul, Nat.reduceSub, reduceIte, reduceCtorEq, if_true, if_false, ite_true, ite_false, eq_self, forall_const, implies_true, Int.reduceLT, Int.reduceLE, Int.reduceToNat, Int.reduceAdd, Int.reduceSub, Int.reduceNeg, ne_eq, Int.reduceEq, Int.reduceNe, Int.reduceBEq, Int.reduceBNe, beq_self_eq_true, bne_self_eq_false, BitVec.reduceBEq, BitVec.reduceBNe, BitVec.reduceOfInt, BitVec.reduceSetWidth, wrD, engS0, engS1, engS2, engS3, engS4, engS5, engS6, engS7, engS8, engS9, engU0, engT0, engT1, engT2, Fx.t1, Fx.t2, Fx.t3, Fx.t4, Fx.t5, Fx.t9, Fx.t23, Fx.t25, Fx.t35, Fx.t52, Fx.t75, Fx.t76, Fx.t79, Fx.t82, Fx.t83, Fx.t91, Fx.t109, Fx.t110, Fx.t111, Fx.t112, Fx.t113, Fx.t132, Fx.t133, Fx.t134, Fx.en20, Fx.en45, Fx.en46, Fx.en47, Fx.en48, Fx.en49, Fx.en50, Fx.en51, Fx.en52]
    exact fin
  · obtain ⟨c1, c2, c3, c4, c5⟩ : nx ≤ ln ∧ ln < nx2 ∧ L.length ≤ lcap ∧ lcap ≤ maxI ∧ lsp.length = (lcap - L.length) * 5 := ho
    refine LoopOk.upX (fun i (g : PG) => PQ d dict nice p L lsp (1 + k) ln i g) L.length (fun i g => ([(16, .int .i64 (i : Nat)), (15, .sl g.h 0 (d.take g.pos).length g.hc), (14, .ptr (1 + k) 0), (11, .sl ln 0 L.length lcap), (2, .int .i64 dict), (0, .ro d.length (bvs .u8 d))], g.m, g.N))
      ⟨(N2 + 1, rowO (d.take p) hs0) :: M2, N2 + 1 + 1, 0, ⟨1, 1, 1, 1⟩, 0 + k, 4, [], renA (fun n => n + k) (chA (fresh07 0) o7), N2 + 1, hc0, hs0, p⟩ ?_ ?_ ?_
    · have hb1 : 1 + k < N2 := by have := Q7.cn; omega
      have hlk := hkeep2 ln _ (show Eng.look [(ln, symRow L lsp)] ln = some (symRow L lsp) by rw [look_cons, if_pos rfl])
      have RS := ((rdmT nd2 (nx := N2)).up (Nat.le_succ _)).cons (nx := N2 + 1) (fun x hx => by have := lt2 x hx; omega) (rowO (d.take p) hs0)
      refine ⟨RS.nd, ?_, ⟨?_, ?_, ?_, ?_, ?_⟩, by show (0 : Int) ≤ 0 ∧ (0 : Int) < 12; decide, ?_, ?_, ?_, ?_, d2, ?_, ?_, ?_, ?_, ?_, ?_⟩
      · intro x hx
        rcases List.mem_cons.1 hx with rfl | hx
        · show N2 + 1 < N2 + 1 + 1; omega
        · have := lt2 x hx
          show x.1 < N2 + 1 + 1; omega
      · rw [look_cons, if_neg (by show ¬ N2 + 1 = 1 + k; omega)]; exact Q7.o
      · rw [look_cons, if_neg (by show ¬ N2 + 1 = 0 + k; omega)]; exact Q7.q
      · show 1 + k < N2 + 1 + 1; omega
      · show 0 + k < N2 + 1 + 1; omega
      · show 1 + k ≠ 0 + k; omega
      · rw [look_cons, if_pos rfl]
      · show N2 + 1 < N2 + 1 + 1; omega
      · show N2 + 1 ≠ 1 + k; omega
      · exact d1
      · rw [look_cons, if_neg (by show ¬ N2 + 1 = ln; omega)]; exact hlk
      · show ln < N2 + 1 + 1; omega
      · show ln ≠ 1 + k; omega
      · show p + 0 ≤ p; omega
      · show p ≤ d.length; omega
      · rw [List.drop_zero, Nat.sub_zero]; exact hL
    · have RS := ((rdmT nd2 (nx := N2)).up (Nat.le_succ _)).cons (nx := N2 + 1) (fun x hx => by have := lt2 x hx; omega) (rowO (d.take p) hs0)
      exact Le.same (Nat.zero_le _) ⟨rfl, rfl, rfl, rfl, rfl, rfl, trivial⟩ (memSame_slf RS.nd) RS.nd (fun _ _ => rfl) (fun _ e => by cases e)
    rintro i g ⟨hi, G⟩
    have gh := G.hh
    have gl := G.ll
    rcases Nat.lt_or_ge i L.length with h | h
    · have hsy := G.sy
      have hdr : L.drop i = L[i] :: L.drop (i + 1) := List.drop_eq_getElem_cons h
      obtain ⟨F, hF⟩ : ∃ F, d.length - p - i = F + 1 := by
        rcases Nat.eq_zero_or_pos (d.length - p - i) with hz | hz
        · exfalso
          rw [hz, symsF, hdr] at hsy; cases hsy
        · exact ⟨_, (Nat.succ_pred_eq_of_pos hz).symm⟩
      have hps : g.pos < d.length := by
        rcases Nat.lt_or_ge g.pos d.length with hh | hh
        · exact hh
        · exfalso
          rw [symsF_done _ _ _ _ _ _ _ hh, hdr] at hsy; cases hsy
      rw [hF, symsF, if_pos hps, hdr] at hsy
      obtain ⟨hs1, hs2⟩ := List.cons.inj hsy
      have hG := nextF_goes d dict nice (by omega) g.pos d.length hps (Nat.le_refl _) g.r
      rw [← hs1] at hG hs2
      generalize (nextF d dict nice g.pos ((d.length : Int) - g.pos) g.r).2 = r' at hG hs2
      obtain ⟨s, hs⟩ : ∃ s, s = L[i] := ⟨_, rfl⟩
      have hsi : L[i]? = some s := by rw [hs]; exact List.getElem?_eq_getElem h
      rw [← hs] at hG hs2
      obtain ⟨e, W, hadv⟩ := goesW (by omega) (by omega) (Nat.le_refl _) hG
      have g1 : decide ((i : Int) < (L.length : Int)) = true := decide_eq_true (by omega)
      have w1 : IntKind.i64.wrap ((i : Int) + 1) = ((i + 1 : Nat) : Int) := by rw [wrap_i64] <;> omega
      have g2 : decide (e > dict) = false := decide_eq_false (by have := W.le; omega)
      obtain ⟨sa, sb⟩ := sym_at L (lsp.map AV.val) i s hsi
      have wl := W.lits
      simp (config := { maxSteps := 1000000, implicitDefEqProofs := false }) only [-List.reduceReplicate, Nat.reduceBEq, renA, renL, renM, renO, evx, evs, evp, Eng.look, cst, cst1, putd, dstOk, params, loadx, partx, loI, hiI, bltx, mmI, boxx, srcx, calx, nilx, upd, del, resv, fillA, setMany, Nat.reduceLT, Nat.reduceLeDiff, Nat.reduceEqDiff, Nat.reduceAdd, Nat.reduceMul, Nat.reduceSub, reduceIte, reduceCtorEq, if_true, if_false, ite_true, ite_false, eq_self, forall_const, implies_true, Int.reduceLT, Int.reduceLE, Int.reduceToNat, Int.reduceAdd, Int.reduceSub, Int.reduceNeg, ne_eq, Int.reduceEq, Int.reduceNe, Int.reduceBEq, Int.reduceBNe, beq_self_eq_true, bne_self_eq_false, BitVec.reduceBEq, BitVec.reduceBNe, BitVec.reduceOfInt, BitVec.reduceSetWidth, wrD, engS0, engS1, engS2, engS3, engS4, engS5, engS6, engS7, engS8, engS9, engU0, engT0, engT1, engT2, Fx.t1, Fx.t2, Fx.t3, Fx.t4, Fx.t5, Fx.t9, Fx.t23, Fx.t25, Fx.t35, Fx.t52, Fx.t75, Fx.t76, Fx.t79, Fx.t82, Fx.t83, Fx.t91, Fx.t109, Fx.t110, Fx.t111, Fx.t112, Fx.t113, Fx.t132, Fx.t133, Fx.t134, Fx.en20, Fx.en45, Fx.en46, Fx.en47, Fx.en48, Fx.en49, Fx.en50, Fx.en51, Fx.en52, g1]
      have RW := G.rdm.drawn []
      have glt := G.lt
      refine ⟨Fx.mixed, .inl ⟨[(0, false), (1, false), (2, false), (3, false), (4, false), (5, false), (6, true), (7, false), (8, false), (9, false), (10, false), (11, false), (12, false), (13, false), (15, false), (14, true), (16, false), (17, false), (18, false), (19, false), (20, false), (21, false), (22, false), (23, false), (24, false), (25, false), (26, false), (27, true), (28, false), (29, false)], [], by kernel_rfl, (fun n hn => by cases hn), ?_⟩⟩
      have f1 : decide (g.N ≤ ln) = false := decide_eq_false (by have := G.llt; omega)
      have sb' : i * 5 + 5 ≤ (List.flatMap symC L).length + lsp.length := by rw [List.length_append, List.length_map] at sb; exact sb
      have hne := G.lne
      have hlt0 : ∀ {N : Nat}, g.N ≤ N → ∀ x ∈ g.m, x.1 < N := fun hN x hx => by have := glt x hx; omega
      have Qu : ∀ {N : Nat}, g.N ≤ N → CodAt g.m N (1 + k) 0 0 0 g.st g.n g.r g.cap g.sp g.P := fun hN => ⟨G.q.o, G.q.q, by have := G.q.cn; omega, by have := G.q.nn; omega, G.q.ne⟩
      simp (config := { maxSteps := 1000000, implicitDefEqProofs := false }) only [-List.reduceReplicate, Nat.reduceBEq, renA, renL, renM, renO, evx, evs, evp, Eng.look, cst, cst1, putd, dstOk, params, loadx, partx, loI, hiI, bltx, mmI, boxx, srcx, calx, nilx, upd, del, resv, fillA, setMany, Nat.reduceLT, Nat.reduceLeDiff, Nat.reduceEqDiff, Nat.reduceAdd, Nat.reduceMul, Nat.reduceSub, reduceIte, reduceCtorEq, if_true, if_false, ite_true, ite_false, eq_self, forall_const, implies_true, Int.reduceLT, Int.reduceLE, Int.reduceToNat, Int.reduceAdd, Int.reduceSub, Int.reduceNeg, ne_eq, Int.reduceEq, Int.reduceNe, Int.reduceBEq, Int.reduceBNe, beq_self_eq_true, bne_self_eq_false, BitVec.reduceBEq, BitVec.reduceBNe, BitVec.reduceOfInt, BitVec.reduceSetWidth, wrD, engS0, engS1, engS2, engS3, engS4, engS5, engS6, engS7, engS8, engS9, engU0, engT0, engT1, engT2, Fx.t1, Fx.t2, Fx.t3, Fx.t4, Fx.t5, Fx.t9, Fx.t23, Fx.t25, Fx.t35, Fx.t52, Fx.t75, Fx.t76, Fx.t79, Fx.t82, Fx.t83, Fx.t91, Fx.t109, Fx.t110, Fx.t111, Fx.t112, Fx.t113, Fx.t132, Fx.t133, Fx.t134, Fx.en20, Fx.en45, Fx.en46, Fx.en47, Fx.en48, Fx.en49, Fx.en50, Fx.en51, Fx.en52, gl, symRow, sa, f1]
      refine ⟨by omega, sb', ?_⟩
      refine (W.fits g.h g.hc RW glt G.q).weak ?_
      rintro v m3 N3 ⟨rfl, rfl, x3⟩
      simp (config := { maxSteps := 1000000, implicitDefEqProofs := false }) only [-List.reduceReplicate, Nat.reduceBEq, renA, renL, renM, renO, evx, evs, evp, Eng.look, cst, cst1, putd, dstOk, params, loadx, partx, loI, hiI, bltx, mmI, boxx, srcx, calx, nilx, upd, del, resv, fillA, setMany, Nat.reduceLT, Nat.reduceLeDiff, Nat.reduceEqDiff, Nat.reduceAdd, Nat.reduceMul, Nat.reduceSub, reduceIte, reduceCtorEq, if_true, if_false, ite_true, ite_false, eq_self, forall_const, implies_true, Int.reduceLT, Int.reduceLE, Int.reduceToNat, Int.reduceAdd, Int.reduceSub, Int.reduceNeg, ne_eq, Int.reduceEq, Int.reduceNe, Int.reduceBEq, Int.reduceBNe, beq_self_eq_true, bne_self_eq_false, BitVec.reduceBEq, BitVec.reduceBNe, BitVec.reduceOfInt, BitVec.reduceSetWidth, wrD, engS0, engS1, engS2, engS3, engS4, engS5, engS6, engS7, engS8, engS9, engU0, engT0, engT1, engT2, Fx.t1, Fx.t2, Fx.t3, Fx.t4, Fx.t5, Fx.t9, Fx.t23, Fx.t25, Fx.t35, Fx.t52, Fx.t75, Fx.t76, Fx.t79, Fx.t82, Fx.t83, Fx.t91, Fx.t109, Fx.t110, Fx.t111, Fx.t112, Fx.t113, Fx.t132, Fx.t133, Fx.t134, Fx.en20, Fx.en45, Fx.en46, Fx.en47, Fx.en48, Fx.en49, Fx.en50, Fx.en51, Fx.en52, gl, symRow, sa, f1]
      refine ⟨by omega, sb', ?_⟩
      refine (W.dist (RW.up x3) (hlt0 x3) (Qu x3)).weak ?_
      rintro v m4 N4 ⟨rfl, rfl, x4⟩
      simp (config := { maxSteps := 1000000, implicitDefEqProofs := false }) only [-List.reduceReplicate, Nat.reduceBEq, renA, renL, renM, renO, evx, evs, evp, Eng.look, cst, cst1, putd, dstOk, params, loadx, partx, loI, hiI, bltx, mmI, boxx, srcx, calx, nilx, upd, del, resv, fillA, setMany, Nat.reduceLT, Nat.reduceLeDiff, Nat.reduceEqDiff, Nat.reduceAdd, Nat.reduceMul, Nat.reduceSub, reduceIte, reduceCtorEq, if_true, if_false, ite_true, ite_false, eq_self, forall_const, implies_true, Int.reduceLT, Int.reduceLE, Int.reduceToNat, Int.reduceAdd, Int.reduceSub, Int.reduceNeg, ne_eq, Int.reduceEq, Int.reduceNe, Int.reduceBEq, Int.reduceBNe, beq_self_eq_true, bne_self_eq_false, BitVec.reduceBEq, BitVec.reduceBNe, BitVec.reduceOfInt, BitVec.reduceSetWidth, wrD, engS0, engS1, engS2, engS3, engS4, engS5, engS6, engS7, engS8, engS9, engU0, engT0, engT1, engT2, Fx.t1, Fx.t2, Fx.t3, Fx.t4, Fx.t5, Fx.t9, Fx.t23, Fx.t25, Fx.t35, Fx.t52, Fx.t75, Fx.t76, Fx.t79, Fx.t82, Fx.t83, Fx.t91, Fx.t109, Fx.t110, Fx.t111, Fx.t112, Fx.t113, Fx.t132, Fx.t133, Fx.t134, Fx.en20, Fx.en45, Fx.en46, Fx.en47, Fx.en48, Fx.en49, Fx.en50, Fx.en51, Fx.en52, gl, symRow, sa, f1, g2]
      refine ⟨by omega, sb', by omega, sb', ?_⟩
      refine (W.plain (RW.up (Nat.le_trans x3 x4)) (hlt0 (Nat.le_trans x3 x4))).weak ?_
      rintro v m5 N5 ⟨rfl, rfl, x5⟩
      have y5 : g.N ≤ N5 := Nat.le_trans x3 (Nat.le_trans x4 x5)
      simp (config := { maxSteps := 1000000, implicitDefEqProofs := false }) only [-List.reduceReplicate, Nat.reduceBEq, renA, renL, renM, renO, evx, evs, evp, Eng.look, cst, cst1, putd, dstOk, params, loadx, partx, loI, hiI, bltx, mmI, boxx, srcx, calx, nilx, upd, del, resv, fillA, setMany, Nat.reduceLT, Nat.reduceLeDiff, Nat.reduceEqDiff, Nat.reduceAdd, Nat.reduceMul, Nat.reduceSub, reduceIte, reduceCtorEq, if_true, if_false, ite_true, ite_false, eq_self, forall_const, implies_true, Int.reduceLT, Int.reduceLE, Int.reduceToNat, Int.reduceAdd, Int.reduceSub, Int.reduceNeg, ne_eq, Int.reduceEq, Int.reduceNe, Int.reduceBEq, Int.reduceBNe, beq_self_eq_true, bne_self_eq_false, BitVec.reduceBEq, BitVec.reduceBNe, BitVec.reduceOfInt, BitVec.reduceSetWidth, wrD, engS0, engS1, engS2, engS3, engS4, engS5, engS6, engS7, engS8, engS9, engU0, engT0, engT1, engT2, Fx.t1, Fx.t2, Fx.t3, Fx.t4, Fx.t5, Fx.t9, Fx.t23, Fx.t25, Fx.t35, Fx.t52, Fx.t75, Fx.t76, Fx.t79, Fx.t82, Fx.t83, Fx.t91, Fx.t109, Fx.t110, Fx.t111, Fx.t112, Fx.t113, Fx.t132, Fx.t133, Fx.t134, Fx.en20, Fx.en45, Fx.en46, Fx.en47, Fx.en48, Fx.en49, Fx.en50, Fx.en51, Fx.en52, gl, symRow, sa, wl, litEq_self]
      refine ⟨by omega, sb', ?_⟩
      refine (CallG.any (W.dist (G.rdm.up y5) (hlt0 y5) (Qu y5))).weak ?_
      rintro v m6 N6 ⟨rfl, rfl, x6⟩
      have y6 : g.N ≤ N6 := Nat.le_trans y5 x6
      simp (config := { maxSteps := 1000000, implicitDefEqProofs := false }) only [-List.reduceReplicate, Nat.reduceBEq, renA, renL, renM, renO, evx, evs, evp, Eng.look, cst, cst1, putd, dstOk, params, loadx, partx, loI, hiI, bltx, mmI, boxx, srcx, calx, nilx, upd, del, resv, fillA, setMany, Nat.reduceLT, Nat.reduceLeDiff, Nat.reduceEqDiff, Nat.reduceAdd, Nat.reduceMul, Nat.reduceSub, reduceIte, reduceCtorEq, if_true, if_false, ite_true, ite_false, eq_self, forall_const, implies_true, Int.reduceLT, Int.reduceLE, Int.reduceToNat, Int.reduceAdd, Int.reduceSub, Int.reduceNeg, ne_eq, Int.reduceEq, Int.reduceNe, Int.reduceBEq, Int.reduceBNe, beq_self_eq_true, bne_self_eq_false, BitVec.reduceBEq, BitVec.reduceBNe, BitVec.reduceOfInt, BitVec.reduceSetWidth, wrD, engS0, engS1, engS2, engS3, engS4, engS5, engS6, engS7, engS8, engS9, engU0, engT0, engT1, engT2, Fx.t1, Fx.t2, Fx.t3, Fx.t4, Fx.t5, Fx.t9, Fx.t23, Fx.t25, Fx.t35, Fx.t52, Fx.t75, Fx.t76, Fx.t79, Fx.t82, Fx.t83, Fx.t91, Fx.t109, Fx.t110, Fx.t111, Fx.t112, Fx.t113, Fx.t132, Fx.t133, Fx.t134, Fx.en20, Fx.en45, Fx.en46, Fx.en47, Fx.en48, Fx.en49, Fx.en50, Fx.en51, Fx.en52, gl, symRow, sa]
      refine ⟨by omega, sb', ?_⟩
      refine (CallG.any (W.bec (G.rdm.up y6) (hlt0 y6) (Qu y6) rfl G.st)).weak ?_
      rintro v m7 N7 ⟨rfl, x7, R7, lt7, ⟨n', cap', sp', st', C7, st7, st7'⟩, k7⟩
      have gh7 := k7 _ _ G.hc gh
      have gl7 := k7 _ _ G.lne gl
      have y7 : g.N ≤ N7 := Nat.le_trans y6 x7
      have hhn := G.hn
      simp (config := { maxSteps := 1000000, implicitDefEqProofs := false }) only [-List.reduceReplicate, Nat.reduceBEq, renA, renL, renM, renO, evx, evs, evp, Eng.look, cst, cst1, putd, dstOk, params, loadx, partx, loI, hiI, bltx, mmI, boxx, srcx, calx, nilx, upd, del, resv, fillA, setMany, Nat.reduceLT, Nat.reduceLeDiff, Nat.reduceEqDiff, Nat.reduceAdd, Nat.reduceMul, Nat.reduceSub, reduceIte, reduceCtorEq, if_true, if_false, ite_true, ite_false, eq_self, forall_const, implies_true, Int.reduceLT, Int.reduceLE, Int.reduceToNat, Int.reduceAdd, Int.reduceSub, Int.reduceNeg, ne_eq, Int.reduceEq, Int.reduceNe, Int.reduceBEq, Int.reduceBNe, beq_self_eq_true, bne_self_eq_false, BitVec.reduceBEq, BitVec.reduceBNe, BitVec.reduceOfInt, BitVec.reduceSetWidth, wrD, engS0, engS1, engS2, engS3, engS4, engS5, engS6, engS7, engS8, engS9, engU0, engT0, engT1, engT2, Fx.t1, Fx.t2, Fx.t3, Fx.t4, Fx.t5, Fx.t9, Fx.t23, Fx.t25, Fx.t35, Fx.t52, Fx.t75, Fx.t76, Fx.t79, Fx.t82, Fx.t83, Fx.t91, Fx.t109, Fx.t110, Fx.t111, Fx.t112, Fx.t113, Fx.t132, Fx.t133, Fx.t134, Fx.en20, Fx.en45, Fx.en46, Fx.en47, Fx.en48, Fx.en49, Fx.en50, Fx.en51, Fx.en52, gl7, symRow, sa]
      refine ⟨by omega, sb', ?_⟩
      refine (CallG.any (W.grow R7 lt7 gh7 (by omega))).weak ?_
      rintro v m8 N8 ⟨h8, hc8, sp8, rfl, rfl, x8, x8', z8, z8'⟩
      simp (config := { maxSteps := 1000000, implicitDefEqProofs := false }) only [-List.reduceReplicate, Nat.reduceBEq, renA, renL, renM, renO, evx, evs, evp, Eng.look, cst, cst1, putd, dstOk, params, loadx, partx, loI, hiI, bltx, mmI, boxx, srcx, calx, nilx, upd, del, resv, fillA, setMany, Nat.reduceLT, Nat.reduceLeDiff, Nat.reduceEqDiff, Nat.reduceAdd, Nat.reduceMul, Nat.reduceSub, reduceIte, reduceCtorEq, if_true, if_false, ite_true, ite_false, eq_self, forall_const, implies_true, Int.reduceLT, Int.reduceLE, Int.reduceToNat, Int.reduceAdd, Int.reduceSub, Int.reduceNeg, ne_eq, Int.reduceEq, Int.reduceNe, Int.reduceBEq, Int.reduceBNe, beq_self_eq_true, bne_self_eq_false, BitVec.reduceBEq, BitVec.reduceBNe, BitVec.reduceOfInt, BitVec.reduceSetWidth, wrD, engS0, engS1, engS2, engS3, engS4, engS5, engS6, engS7, engS8, engS9, engU0, engT0, engT1, engT2, Fx.t1, Fx.t2, Fx.t3, Fx.t4, Fx.t5, Fx.t9, Fx.t23, Fx.t25, Fx.t35, Fx.t52, Fx.t75, Fx.t76, Fx.t79, Fx.t82, Fx.t83, Fx.t91, Fx.t109, Fx.t110, Fx.t111, Fx.t112, Fx.t113, Fx.t132, Fx.t133, Fx.t134, Fx.en20, Fx.en45, Fx.en46, Fx.en47, Fx.en48, Fx.en49, Fx.en50, Fx.en51, Fx.en52, w1]
      have ll1 := G.llt
      have cn7 := C7.cn
      have nn7 := C7.nn
      have R8 := (R7.up (Nat.le_trans x8 (Nat.le_of_lt x8'))).consN (n := h8) (fun x hx => by have := lt7 x hx; omega) (rowO (d.take (g.pos + advS s)) sp8)
      refine UpX_normal h ⟨(h8, rowO (d.take (g.pos + advS s)) sp8) :: m7, N8, st', r', n', cap', sp', g.P, h8, hc8, sp8, g.pos + advS s⟩ ⟨R8.nd, ?_, ⟨?_, ?_, ?_, ?_, C7.ne⟩, ⟨st7, st7'⟩, ?_, x8', ?_, z8, z8', ?_, ?_, hne, ?_, hadv, ?_⟩ ?_
      · intro x hx
        rcases List.mem_cons.1 hx with rfl | hx
        · exact x8'
        · have := lt7 x hx
          show x.1 < N8; omega
      · rw [look_cons, if_neg (by show ¬ h8 = 1 + k; omega)]; exact C7.o
      · rw [look_cons, if_neg (by show ¬ h8 = n'; omega)]; exact C7.q
      · show 1 + k < N8; omega
      · show n' < N8; omega
      · rw [look_cons, if_pos rfl]
      · show h8 ≠ 1 + k; omega
      · rw [look_cons, if_neg (by show ¬ h8 = ln; omega)]; exact gl7
      · show ln < N8; omega
      · have := G.p1
        have := W.ad
        show p + (i + 1) ≤ g.pos + advS s; omega
      · rw [show d.length - p - (i + 1) = F by omega]; exact hs2
      · exact Le.same (Nat.zero_le _) ⟨rfl, rfl, rfl, rfl, rfl, rfl, trivial⟩ (memSame_slf R8.nd) R8.nd (fun _ _ => rfl) (fun _ e => by cases e)
    · have hil : i = L.length := by omega
      subst hil
      have hpd : g.pos = d.length := by
        rcases Nat.lt_or_ge g.pos d.length with hh | hh
        · exfalso
          have hsy := G.sy
          rw [List.drop_length] at hsy
          have hp1 := G.p1
          obtain ⟨F, hF⟩ : ∃ F, d.length - p - L.length = F + 1 := ⟨d.length - p - L.length - 1, by omega⟩
          rw [hF, symsF, if_pos hh] at hsy
          cases hsy
        · have := G.p2; omega
      have g1 : decide ((L.length : Int) < (L.length : Int)) = false := decide_eq_false (by omega)
      have gh' : Eng.look g.m g.h = some (.cells (bvs .u8 d ++ g.hs.map AV.val) 5) := by rw [gh, hpd, List.take_length]; rfl
      simp (config := { maxSteps := 1000000, implicitDefEqProofs := false }) only [-List.reduceReplicate, Nat.reduceBEq, renA, renL, renM, renO, evx, evs, evp, Eng.look, cst, cst1, putd, dstOk, params, loadx, partx, loI, hiI, bltx, mmI, boxx, srcx, calx, nilx, upd, del, resv, fillA, setMany, Nat.reduceLT, Nat.reduceLeDiff, Nat.reduceEqDiff, Nat.reduceAdd, Nat.reduceMul, Nat.reduceSub, reduceIte, reduceCtorEq, if_true, if_false, ite_true, ite_false, eq_self, forall_const, implies_true, Int.reduceLT, Int.reduceLE, Int.reduceToNat, Int.reduceAdd, Int.reduceSub, Int.reduceNeg, ne_eq, Int.reduceEq, Int.reduceNe, Int.reduceBEq, Int.reduceBNe, beq_self_eq_true, bne_self_eq_false, BitVec.reduceBEq, BitVec.reduceBNe, BitVec.reduceOfInt, BitVec.reduceSetWidth, wrD, engS0, engS1, engS2, engS3, engS4, engS5, engS6, engS7, engS8, engS9, engU0, engT0, engT1, engT2, Fx.t1, Fx.t2, Fx.t3, Fx.t4, Fx.t5, Fx.t9, Fx.t23, Fx.t25, Fx.t35, Fx.t52, Fx.t75, Fx.t76, Fx.t79, Fx.t82, Fx.t83, Fx.t91, Fx.t109, Fx.t110, Fx.t111, Fx.t112, Fx.t113, Fx.t132, Fx.t133, Fx.t134, Fx.en20, Fx.en45, Fx.en46, Fx.en47, Fx.en48, Fx.en49, Fx.en50, Fx.en51, Fx.en52, g1, gh', hpd, List.take_length, List.drop_zero, u8T, beq_self_eq_true]
      refine ⟨Nat.le_add_right _ _, ?_⟩
      refine kn10 ?_
      simp (config := { maxSteps := 1000000, implicitDefEqProofs := false }) only [-List.reduceReplicate, Nat.reduceBEq, renA, renL, renM, renO, evx, evs, evp, Eng.look, cst, cst1, putd, dstOk, params, loadx, partx, loI, hiI, bltx, mmI, boxx, srcx, calx, nilx, upd, del, resv, fillA, setMany, Nat.reduceLT, Nat.reduceLeDiff, Nat.reduceEqDiff, Nat.reduceAdd, Nat.reduceMul, Nat.reduceSub, reduceIte, reduceCtorEq, if_true, if_false, ite_true, ite_false, eq_self, forall_const, implies_true, Int.reduceLT, Int.reduceLE, Int.reduceToNat, Int.reduceAdd, Int.reduceSub, Int.reduceNeg, ne_eq, Int.reduceEq, Int.reduceNe, Int.reduceBEq, Int.reduceBNe, beq_self_eq_true, bne_self_eq_false, BitVec.reduceBEq, BitVec.reduceBNe, BitVec.reduceOfInt, BitVec.reduceSetWidth, wrD, engS0, engS1, engS2, engS3, engS4, engS5, engS6, engS7, engS8, engS9, engU0, engT0, engT1, engT2, Fx.t1, Fx.t2, Fx.t3, Fx.t4, Fx.t5, Fx.t9, Fx.t23, Fx.t25, Fx.t35, Fx.t52, Fx.t75, Fx.t76, Fx.t79, Fx.t82, Fx.t83, Fx.t91, Fx.t109, Fx.t110, Fx.t111, Fx.t112, Fx.t113, Fx.t132, Fx.t133, Fx.t134, Fx.en20, Fx.en45, Fx.en46, Fx.en47, Fx.en48, Fx.en49, Fx.en50, Fx.en51, Fx.en52]
      exact fin
end Go.Proofs.Ytmnbbpckglppjaa
