/- Parsing: the document's coder behind a symbol. -/
import Derived.Test.YtmnbbpckglppjaaEng19
import Derived.Test.YtmnbbpckglppjaaEng26
import Derived.Test.YtmnbbpckglppjaaPre
set_option linter.unusedVariables false
set_option linter.unusedSimpArgs false
set_option maxRecDepth 100000
namespace Go.Proofs.Ytmnbbpckglppjaa
open Go Go.Eng

def stL (st : Int) : Int := if st < 4 then 0 else if st < 10 then st - 3 else st - 6
def stM (st : Int) : Int := if 7 ≤ st then 10 else 7
def stR (st : Int) (l : Nat) : Int := if 7 ≤ st then 11 else if l = 1 then 9 else 8
section
variable {wr : Nat → Bool} {m : Mem} {nx c : Nat} {lc lp pb st : Int} {n : Nat} {r : R4} {cap : Nat} {sp : List Value} {P : AV}
theorem consU_all (R : Rdm wr m nx) (hlt : ∀ p ∈ m, p.1 < nx) (c : Nat) (X o : AObj) : ∀ p ∈ Eng.upd m c X, Eng.look ((nx, o) :: Eng.upd m c X) p.1 = some p.2 := fun p hp => by
  have := upd_lt hlt c X p hp
  rw [look_cons, if_neg (by omega)]
  exact look_mem (R.upd c X).nd hp
set_option maxHeartbeats 1000000 in
theorem becLit (R : Rdm wr m nx) (hlt : ∀ p ∈ m, p.1 < nx) (Q : CodAt m nx c lc lp pb st n r cap sp P) (hw : wr c = true) (hst : 0 ≤ st ∧ st < 12) (b : BitVec 8) : CallG false Try.prog 51 [.ptr c 0, .agg (symC (Lit b))] wr m nx
    (Ku (.tup []) (Eng.upd m c (codO lc lp pb (stL st) (.sl n 0 4 cap) P)) nx) := by
  refine fn_okG Try.func51 rfl (by show 2 ≤ _; decide) ?_
  have o := Q.o
  have e1 : (nx = c) = False := eq_false (by have := Q.cn; omega)
  have hu : ∀ X, Eng.look (Eng.upd m c X) c = some X := fun X => look_upd_same X o
  have w3 : IntKind.i64.wrap (st - 3) = st - 3 := by rw [wrap_i64] <;> omega
  have w6 : IntKind.i64.wrap (st - 6) = st - 6 := by rw [wrap_i64] <;> omega
  rcases Int.lt_or_le st 4 with k | k
  · have k1 : decide (st < 4) = true := decide_eq_true k
    simp (config := { maxSteps := 1000000, implicitDefEqProofs := false }) only [-List.reduceReplicate, Nat.reduceBEq, renA, renL, renM, renO, evx, evs, evp, Eng.look, cst, cst1, putd, dstOk, params, loadx, partx, loI, hiI, bltx, mmI, boxx, srcx, calx, nilx, upd, del, resv, fillA, setMany, Nat.reduceLT, Nat.reduceLeDiff, Nat.reduceEqDiff, Nat.reduceAdd, Nat.reduceMul, Nat.reduceSub, reduceIte, reduceCtorEq, if_true, if_false, ite_true, ite_false, eq_self, forall_const, implies_true, Int.reduceLT, Int.reduceLE, Int.reduceToNat, Int.reduceAdd, Int.reduceSub, Int.reduceNeg, ne_eq, Int.reduceEq, Int.reduceNe, Int.reduceBEq, Int.reduceBNe, beq_self_eq_true, bne_self_eq_false, BitVec.reduceBEq, BitVec.reduceBNe, BitVec.reduceOfInt, BitVec.reduceSetWidth, wrD, engS0, engS1, engS2, engS3, engS4, engS5, engS6, engS7, engS8, engS9, engU0, engT0, engT1, engT2, Fx.t1, Fx.t2, Fx.t3, Fx.t4, Fx.t5, Fx.t52, Fx.t79, Fx.t82, Fx.t83, Fx.t91, Fx.t132, Fx.t133, Fx.t134, Try.results51, Try.ntmps51, symC, Lit, e1, o, codO, k1, hw]
    rw [stL, if_pos k]
    exact (R.upd c _).finU (by omega) (consU_all R hlt c _ _) _
  · have k1 : decide (st < 4) = false := decide_eq_false (by omega)
    rcases Int.lt_or_le st 10 with k' | k'
    · have k2 : decide (st < 10) = true := decide_eq_true k'
      simp (config := { maxSteps := 1000000, implicitDefEqProofs := false }) only [-List.reduceReplicate, Nat.reduceBEq, renA, renL, renM, renO, evx, evs, evp, Eng.look, cst, cst1, putd, dstOk, params, loadx, partx, loI, hiI, bltx, mmI, boxx, srcx, calx, nilx, upd, del, resv, fillA, setMany, Nat.reduceLT, Nat.reduceLeDiff, Nat.reduceEqDiff, Nat.reduceAdd, Nat.reduceMul, Nat.reduceSub, reduceIte, reduceCtorEq, if_true, if_false, ite_true, ite_false, eq_self, forall_const, implies_true, Int.reduceLT, Int.reduceLE, Int.reduceToNat, Int.reduceAdd, Int.reduceSub, Int.reduceNeg, ne_eq, Int.reduceEq, Int.reduceNe, Int.reduceBEq, Int.reduceBNe, beq_self_eq_true, bne_self_eq_false, BitVec.reduceBEq, BitVec.reduceBNe, BitVec.reduceOfInt, BitVec.reduceSetWidth, wrD, engS0, engS1, engS2, engS3, engS4, engS5, engS6, engS7, engS8, engS9, engU0, engT0, engT1, engT2, Fx.t1, Fx.t2, Fx.t3, Fx.t4, Fx.t5, Fx.t52, Fx.t79, Fx.t82, Fx.t83, Fx.t91, Fx.t132, Fx.t133, Fx.t134, Try.results51, Try.ntmps51, symC, Lit, e1, o, codO, k1, k2, w3, hw]
      rw [stL, if_neg (by omega), if_pos k']
      exact (R.upd c _).finU (by omega) (consU_all R hlt c _ _) _
    · have k2 : decide (st < 10) = false := decide_eq_false (by omega)
      simp (config := { maxSteps := 1000000, implicitDefEqProofs := false }) only [-List.reduceReplicate, Nat.reduceBEq, renA, renL, renM, renO, evx, evs, evp, Eng.look, cst, cst1, putd, dstOk, params, loadx, partx, loI, hiI, bltx, mmI, boxx, srcx, calx, nilx, upd, del, resv, fillA, setMany, Nat.reduceLT, Nat.reduceLeDiff, Nat.reduceEqDiff, Nat.reduceAdd, Nat.reduceMul, Nat.reduceSub, reduceIte, reduceCtorEq, if_true, if_false, ite_true, ite_false, eq_self, forall_const, implies_true, Int.reduceLT, Int.reduceLE, Int.reduceToNat, Int.reduceAdd, Int.reduceSub, Int.reduceNeg, ne_eq, Int.reduceEq, Int.reduceNe, Int.reduceBEq, Int.reduceBNe, beq_self_eq_true, bne_self_eq_false, BitVec.reduceBEq, BitVec.reduceBNe, BitVec.reduceOfInt, BitVec.reduceSetWidth, wrD, engS0, engS1, engS2, engS3, engS4, engS5, engS6, engS7, engS8, engS9, engU0, engT0, engT1, engT2, Fx.t1, Fx.t2, Fx.t3, Fx.t4, Fx.t5, Fx.t52, Fx.t79, Fx.t82, Fx.t83, Fx.t91, Fx.t132, Fx.t133, Fx.t134, Try.results51, Try.ntmps51, symC, Lit, e1, o, codO, k1, k2, w6, hw]
      rw [stL, if_neg (by omega), if_neg (by omega)]
      exact (R.upd c _).finU (by omega) (consU_all R hlt c _ _) _
theorem becFin (R : Rdm wr m nx) (hlt : ∀ p ∈ m, p.1 < nx) {c n' cap' N : Nat} {st' : Int} {r' : R4} {sp' : List Value} {m2 : Mem} (h1 : nx ≤ n') (h2 : n' < N) (h3 : Eng.look m2 n' = some (repRow r' sp'))
    (h4 : ∀ p ∈ Eng.upd m c (codO lc lp pb st' (.sl n' 0 4 cap') P), Eng.look m2 p.1 = some p.2) : Eng.Fin nx wr m2 N (fun v m' nx' => v = .tup [] ∧ ∃ (n' cap' : Nat) (sp' : List Value), m' = (n', repRow r' sp') :: Eng.upd m c (codO lc lp pb st' (.sl n' 0 4 cap') P) ∧ nx ≤ n' ∧ n' < nx') (.tup []) := by
  have RS := Rdm.consN (R.upd c (codO lc lp pb st' (.sl n' 0 4 cap') P)) (n := n') (fun x hx => by have := upd_lt hlt _ _ x hx; omega) (repRow r' sp')
  refine Fin.keepW (m0 := (n', repRow r' sp') :: Eng.upd m c (codO lc lp pb st' (.sl n' 0 4 cap') P)) (by omega) (memSame_all fun x hx => ?_) RS.nd RS.kp ⟨rfl, n', cap', sp', rfl, h1, h2⟩
  rcases List.mem_cons.1 hx with rfl | hx
  · exact h3
  · exact h4 x hx
/-- a new row of repeats -/
def BecK (m : Mem) (nx c : Nat) (lc lp pb st' : Int) (r' : R4) (P : AV) : Kv := fun v m' nx' => v = .tup [] ∧ ∃ (n' cap' : Nat) (sp' : List Value), m' = (n', repRow r' sp') :: Eng.upd m c (codO lc lp pb st' (.sl n' 0 4 cap') P) ∧ nx ≤ n' ∧ n' < nx'
set_option maxHeartbeats 1000000 in
theorem becMat (R : Rdm wr m nx) (hlt : ∀ p ∈ m, p.1 < nx) (Q : CodAt m nx c lc lp pb st n r cap sp P) (hw : wr c = true) (l e : Nat) : CallG false Try.prog 51 [.ptr c 0, .agg (symC (Mat l e))] wr m nx
    (BecK m nx c lc lp pb (stM st) (r.front e 3) P) := by
  refine fn_okG Try.func51 rfl (by show 2 ≤ _; decide) ?_
  have o := Q.o
  have q := Q.q
  have e1 : (nx = c) = False := eq_false (by have := Q.cn; omega)
  have e2 : (nx = n) = False := eq_false (by have := Q.nn; omega)
  have e3 : decide (nx + 1 ≤ c) = false := decide_eq_false (by have := Q.cn; omega)
  have e4 : decide (nx + 1 ≤ n) = false := decide_eq_false (by have := Q.nn; omega)
  have e5 : decide (nx + 1 ≤ nx) = false := decide_eq_false (by omega)
  have e6 : (n == c) = false := by have := Q.ne; simp; omega
  have e7 : (nx == c) = false := by have := Q.cn; simp; omega
  have e8 : (nx + 1 = c) = False := eq_false (by have := Q.cn; omega)
  have hu : ∀ X, Eng.look (Eng.upd m c X) c = some X := fun X => look_upd_same X o
  have huu : ∀ X Y, Eng.upd (Eng.upd m c X) c Y = Eng.upd m c Y := fun X Y => upd_upd m c X Y
  have hgg : ∀ (k : Nat), k < 4 → (r.av ++ sp.map AV.val).getD k (.int .i64 0) = .int .i64 (r.get k) := fun k hk => rep_get r (sp.map AV.val) k hk
  have hg0 : (r.av ++ sp.map AV.val).getD 0 (.int .i64 0) = .int .i64 r.a := hgg 0 (by decide)
  have hg1 : (r.av ++ sp.map AV.val).getD 1 (.int .i64 0) = .int .i64 r.b := hgg 1 (by decide)
  have hg2 : (r.av ++ sp.map AV.val).getD 2 (.int .i64 0) = .int .i64 r.c := hgg 2 (by decide)
  simp (config := { maxSteps := 1000000, implicitDefEqProofs := false }) only [-List.reduceReplicate, Nat.reduceBEq, renA, renL, renM, renO, evx, evs, evp, Eng.look, cst, cst1, putd, dstOk, params, loadx, partx, loI, hiI, bltx, mmI, boxx, srcx, calx, nilx, upd, del, resv, fillA, setMany, Nat.reduceLT, Nat.reduceLeDiff, Nat.reduceEqDiff, Nat.reduceAdd, Nat.reduceMul, Nat.reduceSub, reduceIte, reduceCtorEq, if_true, if_false, ite_true, ite_false, eq_self, forall_const, implies_true, Int.reduceLT, Int.reduceLE, Int.reduceToNat, Int.reduceAdd, Int.reduceSub, Int.reduceNeg, ne_eq, Int.reduceEq, Int.reduceNe, Int.reduceBEq, Int.reduceBNe, beq_self_eq_true, bne_self_eq_false, BitVec.reduceBEq, BitVec.reduceBNe, BitVec.reduceOfInt, BitVec.reduceSetWidth, wrD, engS0, engS1, engS2, engS3, engS4, engS5, engS6, engS7, engS8, engS9, engU0, engT0, engT1, engT2, Fx.t1, Fx.t2, Fx.t3, Fx.t4, Fx.t5, Fx.t52, Fx.t79, Fx.t82, Fx.t83, Fx.t91, Fx.t132, Fx.t133, Fx.t134, Try.results51, Try.ntmps51, symC, Mat, e1, o, codO]
  refine ⟨Fx.mixed, .inr (.inl ⟨[(0, false), (1, false), (2, false), (3, false), (4, false), (5, false), (6, false), (7, false), (8, false), (9, false), (10, false), (11, false), (12, false), (13, false), (14, false), (15, false), (16, false), (17, false), (18, false), (19, false), (20, false), (21, true), (22, false), (23, false), (24, true)], [c], [24], [6, 12, 18], by kernel_rfl, by kernel_rfl, (fun k hn => by cases List.mem_singleton.1 hn; exact ⟨hw, by rw [look_cons, if_neg (by have := Q.cn; omega), o]; rfl⟩), ?_⟩)⟩
  rcases Int.lt_or_le st 7 with k | k
  · have k1 : decide (st ≥ 7) = false := decide_eq_false (by omega)
    simp (config := { maxSteps := 1000000, implicitDefEqProofs := false }) only [-List.reduceReplicate, Nat.reduceBEq, renA, renL, renM, renO, evx, evs, evp, Eng.look, cst, cst1, putd, dstOk, params, loadx, partx, loI, hiI, bltx, mmI, boxx, srcx, calx, nilx, upd, del, resv, fillA, setMany, Nat.reduceLT, Nat.reduceLeDiff, Nat.reduceEqDiff, Nat.reduceAdd, Nat.reduceMul, Nat.reduceSub, reduceIte, reduceCtorEq, if_true, if_false, ite_true, ite_false, eq_self, forall_const, implies_true, Int.reduceLT, Int.reduceLE, Int.reduceToNat, Int.reduceAdd, Int.reduceSub, Int.reduceNeg, ne_eq, Int.reduceEq, Int.reduceNe, Int.reduceBEq, Int.reduceBNe, beq_self_eq_true, bne_self_eq_false, BitVec.reduceBEq, BitVec.reduceBNe, BitVec.reduceOfInt, BitVec.reduceSetWidth, wrD, engS0, engS1, engS2, engS3, engS4, engS5, engS6, engS7, engS8, engS9, engU0, engT0, engT1, engT2, Fx.t1, Fx.t2, Fx.t3, Fx.t4, Fx.t5, Fx.t52, Fx.t79, Fx.t82, Fx.t83, Fx.t91, Fx.t132, Fx.t133, Fx.t134, e1, e2, e3, e4, e5, e6, e7, e8, o, q, codO, repRow, hg0, hg1, hg2, hu, huu, hw, k1]
    refine ⟨Nat.lt_of_lt_of_le (by decide) (Nat.le_add_right 4 _), Nat.lt_of_lt_of_le (by decide) (Nat.le_add_right 4 _), Nat.lt_of_lt_of_le (by decide) (Nat.le_add_right 4 _), .inr trivial, ?_⟩
    rw [stM, if_neg (by omega)]
    refine becFin R hlt (n' := nx + 1) (cap' := 4) (sp' := []) (by omega) (by omega) (by rw [look_cons, if_pos rfl]; rfl) fun x hx => ?_
    have := upd_lt hlt _ _ x hx
    rw [look_cons, look_cons, if_neg (by omega), if_neg (by omega)]
    exact look_mem (R.upd c _).nd hx
  · have k1 : decide (st ≥ 7) = true := decide_eq_true k
    simp (config := { maxSteps := 1000000, implicitDefEqProofs := false }) only [-List.reduceReplicate, Nat.reduceBEq, renA, renL, renM, renO, evx, evs, evp, Eng.look, cst, cst1, putd, dstOk, params, loadx, partx, loI, hiI, bltx, mmI, boxx, srcx, calx, nilx, upd, del, resv, fillA, setMany, Nat.reduceLT, Nat.reduceLeDiff, Nat.reduceEqDiff, Nat.reduceAdd, Nat.reduceMul, Nat.reduceSub, reduceIte, reduceCtorEq, if_true, if_false, ite_true, ite_false, eq_self, forall_const, implies_true, Int.reduceLT, Int.reduceLE, Int.reduceToNat, Int.reduceAdd, Int.reduceSub, Int.reduceNeg, ne_eq, Int.reduceEq, Int.reduceNe, Int.reduceBEq, Int.reduceBNe, beq_self_eq_true, bne_self_eq_false, BitVec.reduceBEq, BitVec.reduceBNe, BitVec.reduceOfInt, BitVec.reduceSetWidth, wrD, engS0, engS1, engS2, engS3, engS4, engS5, engS6, engS7, engS8, engS9, engU0, engT0, engT1, engT2, Fx.t1, Fx.t2, Fx.t3, Fx.t4, Fx.t5, Fx.t52, Fx.t79, Fx.t82, Fx.t83, Fx.t91, Fx.t132, Fx.t133, Fx.t134, e1, e2, e3, e4, e5, e6, e7, e8, o, q, codO, repRow, hg0, hg1, hg2, hu, huu, hw, k1]
    refine ⟨Nat.lt_of_lt_of_le (by decide) (Nat.le_add_right 4 _), Nat.lt_of_lt_of_le (by decide) (Nat.le_add_right 4 _), Nat.lt_of_lt_of_le (by decide) (Nat.le_add_right 4 _), .inr trivial, ?_⟩
    rw [stM, if_pos k]
    refine becFin R hlt (n' := nx + 1) (cap' := 4) (sp' := []) (by omega) (by omega) (by rw [look_cons, if_pos rfl]; rfl) fun x hx => ?_
    have := upd_lt hlt _ _ x hx
    rw [look_cons, look_cons, if_neg (by omega), if_neg (by omega)]
    exact look_mem (R.upd c _).nd hx
end
end Go.Proofs.Ytmnbbpckglppjaa
