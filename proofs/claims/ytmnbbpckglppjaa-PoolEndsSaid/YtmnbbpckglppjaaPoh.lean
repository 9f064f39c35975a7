/- Turns: the program's pool goes on; which actors may. -/
import Derived.Test.YtmnbbpckglppjaaEng19
import Derived.Test.YtmnbbpckglppjaaEng26
import Derived.Test.YtmnbbpckglppjaaPog
set_option linter.unusedVariables false
set_option linter.unusedSimpArgs false
set_option maxRecDepth 100000
namespace Go.Proofs.Ytmnbbpckglppjaa
open Go Go.Eng

def mayP (jobs room : Nat) (S : PS) (x : Int) : Int × Bool :=
  if x < 0 ∨ (S.busy.length : Int) + 1 < x then (0, false)
  else if x = 0 then (if canS jobs room S = true then (S.next : Int) else 0, canS jobs room S)
  else if x ≤ S.busy.length then wkJ S (x - 1).toNat
  else (if (S.out : Int) ∈ S.ws then (S.out : Int) else 0, decide ((S.out : Int) ∈ S.ws))
def stpP (jobs room : Nat) (S : PS) (x : Int) : PS :=
  if x < 0 ∨ (S.busy.length : Int) + 1 < x then S
  else if x = 0 then (if canS jobs room S = true then splS S else S)
  else if x ≤ S.busy.length then wkS S (x - 1).toNat
  else (if (S.out : Int) ∈ S.ws then colS S else S)
section
variable {wr : Nat → Bool} {m : Mem} {nx a b c jobs room : Nat} {S : PS} {Qv Ov : AV} {qs os born : List Nat}
theorem stepF (D : Rdm wr m nx) (P : PoolAt m nx a b c jobs room S Qv Ov qs os born) (x : Int) (hx : -9223372036854775808 ≤ x ∧ x < 9223372036854775808) : CallG false Try.prog 87 [.ptr a 0, .int .i64 x, .bool false] wr m nx (Kr (.tup [.int .i64 (mayP jobs room S x).1, .bool (mayP jobs room S x).2]) m nx) := by
  refine fn_okG Try.func87 rfl (by show 3 ≤ _; decide) ?_
  have o := P.o
  have z3 := P.z3
  have w1 : IntKind.i64.wrap ((S.busy.length : Int) + 1) = (S.busy.length : Int) + 1 := by rw [wrap_i64] <;> omega
  rcases Int.lt_or_le x 0 with h1 | h1
  · have g1 : decide (x < 0) = true := decide_eq_true h1
    simp (config := { maxSteps := 1000000, implicitDefEqProofs := false }) only [-List.reduceReplicate, Nat.reduceBEq, renA, renL, renM, renO, evx, evs, evp, Eng.look, cst, cst1, putd, dstOk, params, loadx, partx, loI, hiI, bltx, mmI, boxx, srcx, calx, nilx, upd, del, resv, fillA, setMany, Nat.reduceLT, Nat.reduceLeDiff, Nat.reduceEqDiff, Nat.reduceAdd, Nat.reduceMul, Nat.reduceSub, reduceIte, reduceCtorEq, if_true, if_false, ite_true, ite_false, eq_self, forall_const, implies_true, Int.reduceLT, Int.reduceLE, Int.reduceToNat, Int.reduceAdd, Int.reduceSub, Int.reduceNeg, ne_eq, Int.reduceEq, Int.reduceNe, Int.reduceBEq, Int.reduceBNe, beq_self_eq_true, bne_self_eq_false, BitVec.reduceBEq, BitVec.reduceBNe, BitVec.reduceOfInt, BitVec.reduceSetWidth, wrD, engS0, engS1, engS2, engS3, engS4, engS5, engS6, engS7, engS8, engS9, engU0, engT0, engT1, engT2, Fx.t1, Fx.t3, Fx.t4, Fx.t91, Fx.t92, Fx.t137, Fx.t138, Fx.t139, Fx.en95, Fx.en96, Fx.en97, Try.results87, Try.ntmps87, g1]
    rw [mayP, if_pos (.inl h1)]
    exact D.fin _
  have g1 : decide (x < 0) = false := decide_eq_false (by omega)
  rcases Int.lt_or_le ((S.busy.length : Int) + 1) x with h2 | h2
  · have g2 : decide (x > (S.busy.length : Int) + 1) = true := decide_eq_true h2
    simp (config := { maxSteps := 1000000, implicitDefEqProofs := false }) only [-List.reduceReplicate, Nat.reduceBEq, renA, renL, renM, renO, evx, evs, evp, Eng.look, cst, cst1, putd, dstOk, params, loadx, partx, loI, hiI, bltx, mmI, boxx, srcx, calx, nilx, upd, del, resv, fillA, setMany, Nat.reduceLT, Nat.reduceLeDiff, Nat.reduceEqDiff, Nat.reduceAdd, Nat.reduceMul, Nat.reduceSub, reduceIte, reduceCtorEq, if_true, if_false, ite_true, ite_false, eq_self, forall_const, implies_true, Int.reduceLT, Int.reduceLE, Int.reduceToNat, Int.reduceAdd, Int.reduceSub, Int.reduceNeg, ne_eq, Int.reduceEq, Int.reduceNe, Int.reduceBEq, Int.reduceBNe, beq_self_eq_true, bne_self_eq_false, BitVec.reduceBEq, BitVec.reduceBNe, BitVec.reduceOfInt, BitVec.reduceSetWidth, wrD, engS0, engS1, engS2, engS3, engS4, engS5, engS6, engS7, engS8, engS9, engU0, engT0, engT1, engT2, Fx.t1, Fx.t3, Fx.t4, Fx.t91, Fx.t92, Fx.t137, Fx.t138, Fx.t139, Fx.en95, Fx.en96, Fx.en97, Try.results87, Try.ntmps87, g1, o, w1, g2]
    rw [mayP, if_pos (.inr h2)]
    exact D.fin _
  have g2 : decide (x > (S.busy.length : Int) + 1) = false := decide_eq_false (by omega)
  rw [mayP, if_neg (by omega)]
  by_cases h3 : x = 0
  · subst h3
    rw [if_pos rfl]
    simp (config := { maxSteps := 1000000, implicitDefEqProofs := false }) only [-List.reduceReplicate, Nat.reduceBEq, renA, renL, renM, renO, evx, evs, evp, Eng.look, cst, cst1, putd, dstOk, params, loadx, partx, loI, hiI, bltx, mmI, boxx, srcx, calx, nilx, upd, del, resv, fillA, setMany, Nat.reduceLT, Nat.reduceLeDiff, Nat.reduceEqDiff, Nat.reduceAdd, Nat.reduceMul, Nat.reduceSub, reduceIte, reduceCtorEq, if_true, if_false, ite_true, ite_false, eq_self, forall_const, implies_true, Int.reduceLT, Int.reduceLE, Int.reduceToNat, Int.reduceAdd, Int.reduceSub, Int.reduceNeg, ne_eq, Int.reduceEq, Int.reduceNe, Int.reduceBEq, Int.reduceBNe, beq_self_eq_true, bne_self_eq_false, BitVec.reduceBEq, BitVec.reduceBNe, BitVec.reduceOfInt, BitVec.reduceSetWidth, wrD, engS0, engS1, engS2, engS3, engS4, engS5, engS6, engS7, engS8, engS9, engU0, engT0, engT1, engT2, Fx.t1, Fx.t3, Fx.t4, Fx.t91, Fx.t92, Fx.t137, Fx.t138, Fx.t139, Fx.en95, Fx.en96, Fx.en97, Try.results87, Try.ntmps87, g1, o, w1, g2]
    refine (splitF D P).weak ?_
    rintro v m3 nx3 ⟨rfl, rfl, rfl⟩
    simp (config := { maxSteps := 1000000, implicitDefEqProofs := false }) only [-List.reduceReplicate, Nat.reduceBEq, renA, renL, renM, renO, evx, evs, evp, Eng.look, cst, cst1, putd, dstOk, params, loadx, partx, loI, hiI, bltx, mmI, boxx, srcx, calx, nilx, upd, del, resv, fillA, setMany, Nat.reduceLT, Nat.reduceLeDiff, Nat.reduceEqDiff, Nat.reduceAdd, Nat.reduceMul, Nat.reduceSub, reduceIte, reduceCtorEq, if_true, if_false, ite_true, ite_false, eq_self, forall_const, implies_true, Int.reduceLT, Int.reduceLE, Int.reduceToNat, Int.reduceAdd, Int.reduceSub, Int.reduceNeg, ne_eq, Int.reduceEq, Int.reduceNe, Int.reduceBEq, Int.reduceBNe, beq_self_eq_true, bne_self_eq_false, BitVec.reduceBEq, BitVec.reduceBNe, BitVec.reduceOfInt, BitVec.reduceSetWidth, wrD, engS0, engS1, engS2, engS3, engS4, engS5, engS6, engS7, engS8, engS9, engU0, engT0, engT1, engT2, Fx.t1, Fx.t3, Fx.t4, Fx.t91, Fx.t92, Fx.t137, Fx.t138, Fx.t139, Fx.en95, Fx.en96, Fx.en97]
    exact D.fin _
  have g3 : (x == 0) = false := by simpa using h3
  rw [if_neg h3]
  rcases Int.lt_or_le (S.busy.length : Int) x with h4 | h4
  · have g4 : decide (x ≤ (S.busy.length : Int)) = false := decide_eq_false (by omega)
    rw [if_neg (by omega)]
    simp (config := { maxSteps := 1000000, implicitDefEqProofs := false }) only [-List.reduceReplicate, Nat.reduceBEq, renA, renL, renM, renO, evx, evs, evp, Eng.look, cst, cst1, putd, dstOk, params, loadx, partx, loI, hiI, bltx, mmI, boxx, srcx, calx, nilx, upd, del, resv, fillA, setMany, Nat.reduceLT, Nat.reduceLeDiff, Nat.reduceEqDiff, Nat.reduceAdd, Nat.reduceMul, Nat.reduceSub, reduceIte, reduceCtorEq, if_true, if_false, ite_true, ite_false, eq_self, forall_const, implies_true, Int.reduceLT, Int.reduceLE, Int.reduceToNat, Int.reduceAdd, Int.reduceSub, Int.reduceNeg, ne_eq, Int.reduceEq, Int.reduceNe, Int.reduceBEq, Int.reduceBNe, beq_self_eq_true, bne_self_eq_false, BitVec.reduceBEq, BitVec.reduceBNe, BitVec.reduceOfInt, BitVec.reduceSetWidth, wrD, engS0, engS1, engS2, engS3, engS4, engS5, engS6, engS7, engS8, engS9, engU0, engT0, engT1, engT2, Fx.t1, Fx.t3, Fx.t4, Fx.t91, Fx.t92, Fx.t137, Fx.t138, Fx.t139, Fx.en95, Fx.en96, Fx.en97, Try.results87, Try.ntmps87, g1, o, w1, g2, g3, g4]
    refine (collectF D P).weak ?_
    rintro v m3 nx3 ⟨rfl, rfl, rfl⟩
    simp (config := { maxSteps := 1000000, implicitDefEqProofs := false }) only [-List.reduceReplicate, Nat.reduceBEq, renA, renL, renM, renO, evx, evs, evp, Eng.look, cst, cst1, putd, dstOk, params, loadx, partx, loI, hiI, bltx, mmI, boxx, srcx, calx, nilx, upd, del, resv, fillA, setMany, Nat.reduceLT, Nat.reduceLeDiff, Nat.reduceEqDiff, Nat.reduceAdd, Nat.reduceMul, Nat.reduceSub, reduceIte, reduceCtorEq, if_true, if_false, ite_true, ite_false, eq_self, forall_const, implies_true, Int.reduceLT, Int.reduceLE, Int.reduceToNat, Int.reduceAdd, Int.reduceSub, Int.reduceNeg, ne_eq, Int.reduceEq, Int.reduceNe, Int.reduceBEq, Int.reduceBNe, beq_self_eq_true, bne_self_eq_false, BitVec.reduceBEq, BitVec.reduceBNe, BitVec.reduceOfInt, BitVec.reduceSetWidth, wrD, engS0, engS1, engS2, engS3, engS4, engS5, engS6, engS7, engS8, engS9, engU0, engT0, engT1, engT2, Fx.t1, Fx.t3, Fx.t4, Fx.t91, Fx.t92, Fx.t137, Fx.t138, Fx.t139, Fx.en95, Fx.en96, Fx.en97]
    exact D.fin _
  · have g4 : decide (x ≤ (S.busy.length : Int)) = true := decide_eq_true h4
    rw [if_pos h4]
    have w2 : IntKind.i64.wrap (x - 1) = (((x - 1).toNat : Nat) : Int) := by rw [wrap_i64] <;> omega
    simp (config := { maxSteps := 1000000, implicitDefEqProofs := false }) only [-List.reduceReplicate, Nat.reduceBEq, renA, renL, renM, renO, evx, evs, evp, Eng.look, cst, cst1, putd, dstOk, params, loadx, partx, loI, hiI, bltx, mmI, boxx, srcx, calx, nilx, upd, del, resv, fillA, setMany, Nat.reduceLT, Nat.reduceLeDiff, Nat.reduceEqDiff, Nat.reduceAdd, Nat.reduceMul, Nat.reduceSub, reduceIte, reduceCtorEq, if_true, if_false, ite_true, ite_false, eq_self, forall_const, implies_true, Int.reduceLT, Int.reduceLE, Int.reduceToNat, Int.reduceAdd, Int.reduceSub, Int.reduceNeg, ne_eq, Int.reduceEq, Int.reduceNe, Int.reduceBEq, Int.reduceBNe, beq_self_eq_true, bne_self_eq_false, BitVec.reduceBEq, BitVec.reduceBNe, BitVec.reduceOfInt, BitVec.reduceSetWidth, wrD, engS0, engS1, engS2, engS3, engS4, engS5, engS6, engS7, engS8, engS9, engU0, engT0, engT1, engT2, Fx.t1, Fx.t3, Fx.t4, Fx.t91, Fx.t92, Fx.t137, Fx.t138, Fx.t139, Fx.en95, Fx.en96, Fx.en97, Try.results87, Try.ntmps87, g1, o, w1, g2, g3, g4, w2]
    refine (workF D P (x - 1).toNat (by omega)).weak ?_
    rintro v m3 nx3 ⟨rfl, rfl, rfl⟩
    simp (config := { maxSteps := 1000000, implicitDefEqProofs := false }) only [-List.reduceReplicate, Nat.reduceBEq, renA, renL, renM, renO, evx, evs, evp, Eng.look, cst, cst1, putd, dstOk, params, loadx, partx, loI, hiI, bltx, mmI, boxx, srcx, calx, nilx, upd, del, resv, fillA, setMany, Nat.reduceLT, Nat.reduceLeDiff, Nat.reduceEqDiff, Nat.reduceAdd, Nat.reduceMul, Nat.reduceSub, reduceIte, reduceCtorEq, if_true, if_false, ite_true, ite_false, eq_self, forall_const, implies_true, Int.reduceLT, Int.reduceLE, Int.reduceToNat, Int.reduceAdd, Int.reduceSub, Int.reduceNeg, ne_eq, Int.reduceEq, Int.reduceNe, Int.reduceBEq, Int.reduceBNe, beq_self_eq_true, bne_self_eq_false, BitVec.reduceBEq, BitVec.reduceBNe, BitVec.reduceOfInt, BitVec.reduceSetWidth, wrD, engS0, engS1, engS2, engS3, engS4, engS5, engS6, engS7, engS8, engS9, engU0, engT0, engT1, engT2, Fx.t1, Fx.t3, Fx.t4, Fx.t91, Fx.t92, Fx.t137, Fx.t138, Fx.t139, Fx.en95, Fx.en96, Fx.en97]
    exact D.fin _
theorem PoolK.fin {S' : PS} {V : AV} {own : List Nat} {m' : Mem} {nx' : Nat} {v : AV} (h : PoolK a b c jobs room S' v own m nx v m' nx') : Eng.Fin nx (fun _ => true) m' nx' (PoolK a b c jobs room S' v own m nx) v :=
  Fin.keepW (m0 := m') h.2.1 (memSame_slf h.2.2.1.nd) h.2.2.1.nd (fun _ e => by cases e) h
theorem stepT (D : Rdm (fun _ => true) m nx) (hlt : ∀ p ∈ m, p.1 < nx) (P : PoolAt m nx a b c jobs room S Qv Ov qs os born) (hj : ∀ i, i < S.busy.length → S.busy.getD i 0 ≠ -1 → S.busy.getD i 0 ∉ S.ws) (hso : (S.out : Int) ∈ S.ws → S.out < 10000) (x : Int) (hx : -9223372036854775808 ≤ x ∧ x < 9223372036854775808) : CallG false Try.prog 87 [.ptr a 0, .int .i64 x, .bool true] (fun _ => true) m nx
    (PoolK a b c jobs room (stpP jobs room S x) (.tup [.int .i64 (mayP jobs room S x).1, .bool (mayP jobs room S x).2]) (a :: b :: c :: (qs ++ os)) m nx) := by
  refine fn_okG Try.func87 rfl (by show 3 ≤ _; decide) ?_
  have o := P.o
  have z3 := P.z3
  have w1 : IntKind.i64.wrap ((S.busy.length : Int) + 1) = (S.busy.length : Int) + 1 := by rw [wrap_i64] <;> omega
  have same : ∀ (V : AV), Eng.Fin nx (fun _ => true) m nx (PoolK a b c jobs room S V (a :: b :: c :: (qs ++ os)) m nx) V := fun V => Fin.keepW (m0 := m) (Nat.le_refl _) (memSame_slf D.nd) D.nd D.kp (PoolK.same D hlt P V)
  rcases Int.lt_or_le x 0 with h1 | h1
  · have g1 : decide (x < 0) = true := decide_eq_true h1
    simp (config := { maxSteps := 1000000, implicitDefEqProofs := false }) only [-List.reduceReplicate, Nat.reduceBEq, renA, renL, renM, renO, evx, evs, evp, Eng.look, cst, cst1, putd, dstOk, params, loadx, partx, loI, hiI, bltx, mmI, boxx, srcx, calx, nilx, upd, del, resv, fillA, setMany, Nat.reduceLT, Nat.reduceLeDiff, Nat.reduceEqDiff, Nat.reduceAdd, Nat.reduceMul, Nat.reduceSub, reduceIte, reduceCtorEq, if_true, if_false, ite_true, ite_false, eq_self, forall_const, implies_true, Int.reduceLT, Int.reduceLE, Int.reduceToNat, Int.reduceAdd, Int.reduceSub, Int.reduceNeg, ne_eq, Int.reduceEq, Int.reduceNe, Int.reduceBEq, Int.reduceBNe, beq_self_eq_true, bne_self_eq_false, BitVec.reduceBEq, BitVec.reduceBNe, BitVec.reduceOfInt, BitVec.reduceSetWidth, wrD, engS0, engS1, engS2, engS3, engS4, engS5, engS6, engS7, engS8, engS9, engU0, engT0, engT1, engT2, Fx.t1, Fx.t3, Fx.t4, Fx.t91, Fx.t92, Fx.t137, Fx.t138, Fx.t139, Fx.en95, Fx.en96, Fx.en97, Try.results87, Try.ntmps87, g1]
    rw [mayP, if_pos (.inl h1), stpP, if_pos (.inl h1)]
    exact same _
  have g1 : decide (x < 0) = false := decide_eq_false (by omega)
  rcases Int.lt_or_le ((S.busy.length : Int) + 1) x with h2 | h2
  · have g2 : decide (x > (S.busy.length : Int) + 1) = true := decide_eq_true h2
    simp (config := { maxSteps := 1000000, implicitDefEqProofs := false }) only [-List.reduceReplicate, Nat.reduceBEq, renA, renL, renM, renO, evx, evs, evp, Eng.look, cst, cst1, putd, dstOk, params, loadx, partx, loI, hiI, bltx, mmI, boxx, srcx, calx, nilx, upd, del, resv, fillA, setMany, Nat.reduceLT, Nat.reduceLeDiff, Nat.reduceEqDiff, Nat.reduceAdd, Nat.reduceMul, Nat.reduceSub, reduceIte, reduceCtorEq, if_true, if_false, ite_true, ite_false, eq_self, forall_const, implies_true, Int.reduceLT, Int.reduceLE, Int.reduceToNat, Int.reduceAdd, Int.reduceSub, Int.reduceNeg, ne_eq, Int.reduceEq, Int.reduceNe, Int.reduceBEq, Int.reduceBNe, beq_self_eq_true, bne_self_eq_false, BitVec.reduceBEq, BitVec.reduceBNe, BitVec.reduceOfInt, BitVec.reduceSetWidth, wrD, engS0, engS1, engS2, engS3, engS4, engS5, engS6, engS7, engS8, engS9, engU0, engT0, engT1, engT2, Fx.t1, Fx.t3, Fx.t4, Fx.t91, Fx.t92, Fx.t137, Fx.t138, Fx.t139, Fx.en95, Fx.en96, Fx.en97, Try.results87, Try.ntmps87, g1, o, w1, g2]
    rw [mayP, if_pos (.inr h2), stpP, if_pos (.inr h2)]
    exact same _
  have g2 : decide (x > (S.busy.length : Int) + 1) = false := decide_eq_false (by omega)
  rw [mayP, if_neg (by omega), stpP, if_neg (by omega)]
  by_cases h3 : x = 0
  · subst h3
    rw [if_pos rfl, if_pos rfl]
    simp (config := { maxSteps := 1000000, implicitDefEqProofs := false }) only [-List.reduceReplicate, Nat.reduceBEq, renA, renL, renM, renO, evx, evs, evp, Eng.look, cst, cst1, putd, dstOk, params, loadx, partx, loI, hiI, bltx, mmI, boxx, srcx, calx, nilx, upd, del, resv, fillA, setMany, Nat.reduceLT, Nat.reduceLeDiff, Nat.reduceEqDiff, Nat.reduceAdd, Nat.reduceMul, Nat.reduceSub, reduceIte, reduceCtorEq, if_true, if_false, ite_true, ite_false, eq_self, forall_const, implies_true, Int.reduceLT, Int.reduceLE, Int.reduceToNat, Int.reduceAdd, Int.reduceSub, Int.reduceNeg, ne_eq, Int.reduceEq, Int.reduceNe, Int.reduceBEq, Int.reduceBNe, beq_self_eq_true, bne_self_eq_false, BitVec.reduceBEq, BitVec.reduceBNe, BitVec.reduceOfInt, BitVec.reduceSetWidth, wrD, engS0, engS1, engS2, engS3, engS4, engS5, engS6, engS7, engS8, engS9, engU0, engT0, engT1, engT2, Fx.t1, Fx.t3, Fx.t4, Fx.t91, Fx.t92, Fx.t137, Fx.t138, Fx.t139, Fx.en95, Fx.en96, Fx.en97, Try.results87, Try.ntmps87, g1, o, w1, g2]
    refine (splitT D hlt P).weak ?_
    rintro v m3 nx3 ⟨rfl, h⟩
    simp (config := { maxSteps := 1000000, implicitDefEqProofs := false }) only [-List.reduceReplicate, Nat.reduceBEq, renA, renL, renM, renO, evx, evs, evp, Eng.look, cst, cst1, putd, dstOk, params, loadx, partx, loI, hiI, bltx, mmI, boxx, srcx, calx, nilx, upd, del, resv, fillA, setMany, Nat.reduceLT, Nat.reduceLeDiff, Nat.reduceEqDiff, Nat.reduceAdd, Nat.reduceMul, Nat.reduceSub, reduceIte, reduceCtorEq, if_true, if_false, ite_true, ite_false, eq_self, forall_const, implies_true, Int.reduceLT, Int.reduceLE, Int.reduceToNat, Int.reduceAdd, Int.reduceSub, Int.reduceNeg, ne_eq, Int.reduceEq, Int.reduceNe, Int.reduceBEq, Int.reduceBNe, beq_self_eq_true, bne_self_eq_false, BitVec.reduceBEq, BitVec.reduceBNe, BitVec.reduceOfInt, BitVec.reduceSetWidth, wrD, engS0, engS1, engS2, engS3, engS4, engS5, engS6, engS7, engS8, engS9, engU0, engT0, engT1, engT2, Fx.t1, Fx.t3, Fx.t4, Fx.t91, Fx.t92, Fx.t137, Fx.t138, Fx.t139, Fx.en95, Fx.en96, Fx.en97]
    exact PoolK.fin (V := .nils) ⟨rfl, h⟩
  have g3 : (x == 0) = false := by simpa using h3
  rw [if_neg h3, if_neg h3]
  rcases Int.lt_or_le (S.busy.length : Int) x with h4 | h4
  · have g4 : decide (x ≤ (S.busy.length : Int)) = false := decide_eq_false (by omega)
    rw [if_neg (show ¬ x ≤ (S.busy.length : Int) by omega), if_neg (show ¬ x ≤ (S.busy.length : Int) by omega)]
    simp (config := { maxSteps := 1000000, implicitDefEqProofs := false }) only [-List.reduceReplicate, Nat.reduceBEq, renA, renL, renM, renO, evx, evs, evp, Eng.look, cst, cst1, putd, dstOk, params, loadx, partx, loI, hiI, bltx, mmI, boxx, srcx, calx, nilx, upd, del, resv, fillA, setMany, Nat.reduceLT, Nat.reduceLeDiff, Nat.reduceEqDiff, Nat.reduceAdd, Nat.reduceMul, Nat.reduceSub, reduceIte, reduceCtorEq, if_true, if_false, ite_true, ite_false, eq_self, forall_const, implies_true, Int.reduceLT, Int.reduceLE, Int.reduceToNat, Int.reduceAdd, Int.reduceSub, Int.reduceNeg, ne_eq, Int.reduceEq, Int.reduceNe, Int.reduceBEq, Int.reduceBNe, beq_self_eq_true, bne_self_eq_false, BitVec.reduceBEq, BitVec.reduceBNe, BitVec.reduceOfInt, BitVec.reduceSetWidth, wrD, engS0, engS1, engS2, engS3, engS4, engS5, engS6, engS7, engS8, engS9, engU0, engT0, engT1, engT2, Fx.t1, Fx.t3, Fx.t4, Fx.t91, Fx.t92, Fx.t137, Fx.t138, Fx.t139, Fx.en95, Fx.en96, Fx.en97, Try.results87, Try.ntmps87, g1, o, w1, g2, g3, g4]
    refine (collectT D hlt P hso).weak ?_
    rintro v m3 nx3 ⟨rfl, h⟩
    simp (config := { maxSteps := 1000000, implicitDefEqProofs := false }) only [-List.reduceReplicate, Nat.reduceBEq, renA, renL, renM, renO, evx, evs, evp, Eng.look, cst, cst1, putd, dstOk, params, loadx, partx, loI, hiI, bltx, mmI, boxx, srcx, calx, nilx, upd, del, resv, fillA, setMany, Nat.reduceLT, Nat.reduceLeDiff, Nat.reduceEqDiff, Nat.reduceAdd, Nat.reduceMul, Nat.reduceSub, reduceIte, reduceCtorEq, if_true, if_false, ite_true, ite_false, eq_self, forall_const, implies_true, Int.reduceLT, Int.reduceLE, Int.reduceToNat, Int.reduceAdd, Int.reduceSub, Int.reduceNeg, ne_eq, Int.reduceEq, Int.reduceNe, Int.reduceBEq, Int.reduceBNe, beq_self_eq_true, bne_self_eq_false, BitVec.reduceBEq, BitVec.reduceBNe, BitVec.reduceOfInt, BitVec.reduceSetWidth, wrD, engS0, engS1, engS2, engS3, engS4, engS5, engS6, engS7, engS8, engS9, engU0, engT0, engT1, engT2, Fx.t1, Fx.t3, Fx.t4, Fx.t91, Fx.t92, Fx.t137, Fx.t138, Fx.t139, Fx.en95, Fx.en96, Fx.en97]
    exact PoolK.fin (V := .nils) ⟨rfl, h⟩
  · have g4 : decide (x ≤ (S.busy.length : Int)) = true := decide_eq_true h4
    rw [if_pos h4, if_pos h4]
    have w2 : IntKind.i64.wrap (x - 1) = (((x - 1).toNat : Nat) : Int) := by rw [wrap_i64] <;> omega
    simp (config := { maxSteps := 1000000, implicitDefEqProofs := false }) only [-List.reduceReplicate, Nat.reduceBEq, renA, renL, renM, renO, evx, evs, evp, Eng.look, cst, cst1, putd, dstOk, params, loadx, partx, loI, hiI, bltx, mmI, boxx, srcx, calx, nilx, upd, del, resv, fillA, setMany, Nat.reduceLT, Nat.reduceLeDiff, Nat.reduceEqDiff, Nat.reduceAdd, Nat.reduceMul, Nat.reduceSub, reduceIte, reduceCtorEq, if_true, if_false, ite_true, ite_false, eq_self, forall_const, implies_true, Int.reduceLT, Int.reduceLE, Int.reduceToNat, Int.reduceAdd, Int.reduceSub, Int.reduceNeg, ne_eq, Int.reduceEq, Int.reduceNe, Int.reduceBEq, Int.reduceBNe, beq_self_eq_true, bne_self_eq_false, BitVec.reduceBEq, BitVec.reduceBNe, BitVec.reduceOfInt, BitVec.reduceSetWidth, wrD, engS0, engS1, engS2, engS3, engS4, engS5, engS6, engS7, engS8, engS9, engU0, engT0, engT1, engT2, Fx.t1, Fx.t3, Fx.t4, Fx.t91, Fx.t92, Fx.t137, Fx.t138, Fx.t139, Fx.en95, Fx.en96, Fx.en97, Try.results87, Try.ntmps87, g1, o, w1, g2, g3, g4, w2]
    refine (workT D hlt P (x - 1).toNat (by omega) (hj _ (by omega))).weak ?_
    rintro v m3 nx3 ⟨rfl, h⟩
    simp (config := { maxSteps := 1000000, implicitDefEqProofs := false }) only [-List.reduceReplicate, Nat.reduceBEq, renA, renL, renM, renO, evx, evs, evp, Eng.look, cst, cst1, putd, dstOk, params, loadx, partx, loI, hiI, bltx, mmI, boxx, srcx, calx, nilx, upd, del, resv, fillA, setMany, Nat.reduceLT, Nat.reduceLeDiff, Nat.reduceEqDiff, Nat.reduceAdd, Nat.reduceMul, Nat.reduceSub, reduceIte, reduceCtorEq, if_true, if_false, ite_true, ite_false, eq_self, forall_const, implies_true, Int.reduceLT, Int.reduceLE, Int.reduceToNat, Int.reduceAdd, Int.reduceSub, Int.reduceNeg, ne_eq, Int.reduceEq, Int.reduceNe, Int.reduceBEq, Int.reduceBNe, beq_self_eq_true, bne_self_eq_false, BitVec.reduceBEq, BitVec.reduceBNe, BitVec.reduceOfInt, BitVec.reduceSetWidth, wrD, engS0, engS1, engS2, engS3, engS4, engS5, engS6, engS7, engS8, engS9, engU0, engT0, engT1, engT2, Fx.t1, Fx.t3, Fx.t4, Fx.t91, Fx.t92, Fx.t137, Fx.t138, Fx.t139, Fx.en95, Fx.en96, Fx.en97]
    exact PoolK.fin (V := .nils) ⟨rfl, h⟩
theorem mayP_no {x : Int} (h : (mayP jobs room S x).2 = false) : (mayP jobs room S x).1 = 0 := by
  unfold mayP at h ⊢
  split
  · rfl
  rename_i h1
  rw [if_neg h1] at h
  split
  · rename_i h2
    rw [if_pos h2] at h
    have h : canS jobs room S = false := h
    show (if canS jobs room S = true then (S.next : Int) else 0) = 0
    rw [h]; rfl
  rename_i h2
  rw [if_neg h2] at h
  split
  · rename_i h3
    rw [if_pos h3] at h
    unfold wkJ at h ⊢
    split
    · rename_i h4
      rw [if_pos h4] at h
      cases hq : S.q with
      | nil => rfl
      | cons y t => rw [hq] at h; cases h
    · rename_i h4
      rw [if_neg h4] at h; cases h
  · rename_i h3
    rw [if_neg h3] at h
    have h := of_decide_eq_false h
    show (if _ then (S.out : Int) else 0) = 0
    rw [if_neg h]
/-- the error's number -/
def erN (b : Bool) : Int := if b = true then 0 else 1
theorem StepT (D : Rdm (fun _ => true) m nx) (hlt : ∀ p ∈ m, p.1 < nx) (P : PoolAt m nx a b c jobs room S Qv Ov qs os born) (hj : ∀ i, i < S.busy.length → S.busy.getD i 0 ≠ -1 → S.busy.getD i 0 ∉ S.ws) (hso : (S.out : Int) ∈ S.ws → S.out < 10000) (x : Int) (hx : -9223372036854775808 ≤ x ∧ x < 9223372036854775808) : CallG false Try.prog 59 [.ptr a 0, .int .i64 x] (fun _ => true) m nx
    (PoolK a b c jobs room (stpP jobs room S x) (.tup [.int .i64 (mayP jobs room S x).1, .int .i64 (erN (mayP jobs room S x).2)]) (a :: b :: c :: (qs ++ os)) m nx) := by
  refine fn_okG Try.func59 rfl (by show 2 ≤ _; decide) ?_
  simp (config := { maxSteps := 1000000, implicitDefEqProofs := false }) only [-List.reduceReplicate, Nat.reduceBEq, renA, renL, renM, renO, evx, evs, evp, Eng.look, cst, cst1, putd, dstOk, params, loadx, partx, loI, hiI, bltx, mmI, boxx, srcx, calx, nilx, upd, del, resv, fillA, setMany, Nat.reduceLT, Nat.reduceLeDiff, Nat.reduceEqDiff, Nat.reduceAdd, Nat.reduceMul, Nat.reduceSub, reduceIte, reduceCtorEq, if_true, if_false, ite_true, ite_false, eq_self, forall_const, implies_true, Int.reduceLT, Int.reduceLE, Int.reduceToNat, Int.reduceAdd, Int.reduceSub, Int.reduceNeg, ne_eq, Int.reduceEq, Int.reduceNe, Int.reduceBEq, Int.reduceBNe, beq_self_eq_true, bne_self_eq_false, BitVec.reduceBEq, BitVec.reduceBNe, BitVec.reduceOfInt, BitVec.reduceSetWidth, wrD, engS0, engS1, engS2, engS3, engS4, engS5, engS6, engS7, engS8, engS9, engU0, engT0, engT1, engT2, Fx.t1, Fx.t3, Fx.t4, Fx.t25, Fx.t91, Fx.t92, Fx.t137, Fx.t138, Fx.t139, Fx.en87, Try.results59, Try.ntmps59]
  refine (stepT D hlt P hj hso x hx).weak ?_
  rintro v m3 nx3 ⟨rfl, h⟩
  cases hm : (mayP jobs room S x).2 with
  | true =>
    simp (config := { maxSteps := 1000000, implicitDefEqProofs := false }) only [-List.reduceReplicate, Nat.reduceBEq, renA, renL, renM, renO, evx, evs, evp, Eng.look, cst, cst1, putd, dstOk, params, loadx, partx, loI, hiI, bltx, mmI, boxx, srcx, calx, nilx, upd, del, resv, fillA, setMany, Nat.reduceLT, Nat.reduceLeDiff, Nat.reduceEqDiff, Nat.reduceAdd, Nat.reduceMul, Nat.reduceSub, reduceIte, reduceCtorEq, if_true, if_false, ite_true, ite_false, eq_self, forall_const, implies_true, Int.reduceLT, Int.reduceLE, Int.reduceToNat, Int.reduceAdd, Int.reduceSub, Int.reduceNeg, ne_eq, Int.reduceEq, Int.reduceNe, Int.reduceBEq, Int.reduceBNe, beq_self_eq_true, bne_self_eq_false, BitVec.reduceBEq, BitVec.reduceBNe, BitVec.reduceOfInt, BitVec.reduceSetWidth, wrD, engS0, engS1, engS2, engS3, engS4, engS5, engS6, engS7, engS8, engS9, engU0, engT0, engT1, engT2, Fx.t1, Fx.t3, Fx.t4, Fx.t25, Fx.t91, Fx.t92, Fx.t137, Fx.t138, Fx.t139, Fx.en87]
    exact PoolK.fin (V := .nils) ⟨rfl, h⟩
  | false =>
    rw [mayP_no hm]
    simp (config := { maxSteps := 1000000, implicitDefEqProofs := false }) only [-List.reduceReplicate, Nat.reduceBEq, renA, renL, renM, renO, evx, evs, evp, Eng.look, cst, cst1, putd, dstOk, params, loadx, partx, loI, hiI, bltx, mmI, boxx, srcx, calx, nilx, upd, del, resv, fillA, setMany, Nat.reduceLT, Nat.reduceLeDiff, Nat.reduceEqDiff, Nat.reduceAdd, Nat.reduceMul, Nat.reduceSub, reduceIte, reduceCtorEq, if_true, if_false, ite_true, ite_false, eq_self, forall_const, implies_true, Int.reduceLT, Int.reduceLE, Int.reduceToNat, Int.reduceAdd, Int.reduceSub, Int.reduceNeg, ne_eq, Int.reduceEq, Int.reduceNe, Int.reduceBEq, Int.reduceBNe, beq_self_eq_true, bne_self_eq_false, BitVec.reduceBEq, BitVec.reduceBNe, BitVec.reduceOfInt, BitVec.reduceSetWidth, wrD, engS0, engS1, engS2, engS3, engS4, engS5, engS6, engS7, engS8, engS9, engU0, engT0, engT1, engT2, Fx.t1, Fx.t3, Fx.t4, Fx.t25, Fx.t91, Fx.t92, Fx.t137, Fx.t138, Fx.t139, Fx.en87]
    exact PoolK.fin (V := .nils) ⟨rfl, h⟩
end
end Go.Proofs.Ytmnbbpckglppjaa
