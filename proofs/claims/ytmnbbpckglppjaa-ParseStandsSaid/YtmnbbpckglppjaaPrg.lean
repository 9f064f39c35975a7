/- Parsing: the document's coder behind a repeat; the bytes grown; a new coder. -/
import Derived.Test.YtmnbbpckglppjaaEng19
import Derived.Test.YtmnbbpckglppjaaEng26
import Derived.Test.YtmnbbpckglppjaaPrf
set_option linter.unusedVariables false
set_option linter.unusedSimpArgs false
set_option maxRecDepth 100000
namespace Go.Proofs.Ytmnbbpckglppjaa
open Go Go.Eng

def rl (r : R4) (w : Nat) : Nat → List Int
  | 0 => [r.get w]
  | i + 1 => if i = w then rl r w i else rl r w i ++ [r.get i]
theorem rl_four (r : R4) (w : Nat) (h : w < 4) : (rl r w 4).map (AV.int .i64) = (r.front (r.get w) w).av := by
  rcases (show w = 0 ∨ w = 1 ∨ w = 2 ∨ w = 3 by omega) with rfl | rfl | rfl | rfl <;> rfl
theorem rl_len4 (r : R4) (w : Nat) (h : w < 4) : (rl r w 4).length = 4 := by
  rcases (show w = 0 ∨ w = 1 ∨ w = 2 ∨ w = 3 by omega) with rfl | rfl | rfl | rfl <;> rfl
theorem rl_le (r : R4) (w : Nat) : ∀ i, (rl r w i).length ≤ i + 1
  | 0 => Nat.le_refl _
  | i + 1 => by
    have := rl_le r w i
    rw [rl]
    split
    · omega
    · rw [List.length_append, List.length_singleton]; omega
def rlRow (l : List Int) (sp : List Value) : AObj := .cells (l.map (AV.int .i64) ++ sp.map AV.val) 3
section
variable {wr : Nat → Bool} {m : Mem} {nx c : Nat} {lc lp pb st : Int} {n : Nat} {r : R4} {cap : Nat} {sp : List Value} {P : AV}
set_option maxHeartbeats 2000000 in
theorem becRpt (R : Rdm wr m nx) (hlt : ∀ p ∈ m, p.1 < nx) (Q : CodAt m nx c lc lp pb st n r cap sp P) (hw : wr c = true) (l w : Nat) (hw4 : w < 4) : CallG false Try.prog 51 [.ptr c 0, .agg (symC (Rpt l w))] wr m nx
    (BecK m nx c lc lp pb (stR st l) (r.front (r.get w) w) P) := by
  refine fn_okG Try.func51 rfl (by show 2 ≤ _; decide) ?_
  have o := Q.o
  have q := Q.q
  have e1 : (nx = c) = False := eq_false (by have := Q.cn; omega)
  have e2 : (nx = n) = False := eq_false (by have := Q.nn; omega)
  have e3 : decide (nx + 1 ≤ c) = false := decide_eq_false (by have := Q.cn; omega)
  have e4 : decide (nx + 1 ≤ n) = false := decide_eq_false (by have := Q.nn; omega)
  have e5 : decide (nx + 1 ≤ nx) = false := decide_eq_false (by omega)
  have hu : ∀ X, Eng.look (Eng.upd m c X) c = some X := fun X => look_upd_same X o
  have huu : ∀ X Y, Eng.upd (Eng.upd m c X) c Y = Eng.upd m c Y := fun X Y => upd_upd m c X Y
  have hgg : ∀ (k : Nat), k < 4 → (r.av ++ sp.map AV.val).getD k (.int .i64 0) = .int .i64 (r.get k) := fun k hk => rep_get r (sp.map AV.val) k hk
  have hgw := hgg w hw4
  simp (config := { maxSteps := 1000000, implicitDefEqProofs := false }) only [-List.reduceReplicate, Nat.reduceBEq, renA, renL, renM, renO, evx, evs, evp, Eng.look, cst, cst1, putd, dstOk, params, loadx, partx, loI, hiI, bltx, mmI, boxx, srcx, calx, nilx, upd, del, resv, fillA, setMany, Nat.reduceLT, Nat.reduceLeDiff, Nat.reduceEqDiff, Nat.reduceAdd, Nat.reduceMul, Nat.reduceSub, reduceIte, reduceCtorEq, if_true, if_false, ite_true, ite_false, eq_self, forall_const, implies_true, Int.reduceLT, Int.reduceLE, Int.reduceToNat, Int.reduceAdd, Int.reduceSub, Int.reduceNeg, ne_eq, Int.reduceEq, Int.reduceNe, Int.reduceBEq, Int.reduceBNe, beq_self_eq_true, bne_self_eq_false, BitVec.reduceBEq, BitVec.reduceBNe, BitVec.reduceOfInt, BitVec.reduceSetWidth, wrD, engS0, engS1, engS2, engS3, engS4, engS5, engS6, engS7, engS8, engS9, engU0, engT0, engT1, engT2, Fx.t1, Fx.t2, Fx.t3, Fx.t4, Fx.t5, Fx.t52, Fx.t79, Fx.t82, Fx.t83, Fx.t91, Fx.t132, Fx.t133, Fx.t134, Try.results51, Try.ntmps51, symC, Rpt, e1, o, codO]
  refine ⟨Fx.mixed, .inl ⟨[(0, false), (1, false), (2, false), (3, false), (4, false), (5, false), (6, false), (7, false), (8, true), (9, false)], [], by kernel_rfl, (fun n hn => by cases hn), ?_⟩⟩
  simp (config := { maxSteps := 1000000, implicitDefEqProofs := false }) only [-List.reduceReplicate, Nat.reduceBEq, renA, renL, renM, renO, evx, evs, evp, Eng.look, cst, cst1, putd, dstOk, params, loadx, partx, loI, hiI, bltx, mmI, boxx, srcx, calx, nilx, upd, del, resv, fillA, setMany, Nat.reduceLT, Nat.reduceLeDiff, Nat.reduceEqDiff, Nat.reduceAdd, Nat.reduceMul, Nat.reduceSub, reduceIte, reduceCtorEq, if_true, if_false, ite_true, ite_false, eq_self, forall_const, implies_true, Int.reduceLT, Int.reduceLE, Int.reduceToNat, Int.reduceAdd, Int.reduceSub, Int.reduceNeg, ne_eq, Int.reduceEq, Int.reduceNe, Int.reduceBEq, Int.reduceBNe, beq_self_eq_true, bne_self_eq_false, BitVec.reduceBEq, BitVec.reduceBNe, BitVec.reduceOfInt, BitVec.reduceSetWidth, wrD, engS0, engS1, engS2, engS3, engS4, engS5, engS6, engS7, engS8, engS9, engU0, engT0, engT1, engT2, Fx.t1, Fx.t2, Fx.t3, Fx.t4, Fx.t5, Fx.t52, Fx.t79, Fx.t82, Fx.t83, Fx.t91, Fx.t132, Fx.t133, Fx.t134, e1, e2, e3, e4, e5, o, q, codO, repRow, hgw, Int.toNat_natCast]
  refine ⟨by omega, by show w < 4 + sp.length; omega, .inr trivial, ?_⟩
  refine LoopOk.upX (fun i (g : Nat × Nat × List Value × Nat) => nx + 1 ≤ g.1 ∧ g.1 < g.2.2.2 ∧ (rl r w i).length ≤ g.2.1 ∧ g.2.1 ≤ maxI ∧ g.2.2.1.length = (g.2.1 - (rl r w i).length) * 1) 4
    (fun i g => ([(6, .int .i64 (i : Nat)), (5, .sl g.1 0 (rl r w i).length g.2.1), (4, .bool (decide (st ≥ 7))), (3, .ptr nx 0), (0, .ptr c 0)], (g.1, rlRow (rl r w i) g.2.2.1) :: (nx, .cells (symC (Rpt l w)) 83) :: m, g.2.2.2)) (nx + 1, 1, [], nx + 1 + 1) ⟨Nat.le_refl _, Nat.lt_succ_self _, Nat.le_refl _, by show 1 ≤ maxI; decide, rfl⟩ ?_ ?_
  · have RS := Rdm.consN ((R.cons hlt (.cells (symC (Rpt l w)) 83)).up (show nx + 1 ≤ nx + 1 + 1 by omega)) (n := nx + 1) (fun x hx => by
      rcases List.mem_cons.1 hx with rfl | hx
      · show nx ≠ nx + 1; omega
      · have := hlt x hx; omega) (rlRow (rl r w 0) [])
    refine Le.same (by show nx ≤ nx + 1 + 1; omega) ⟨rfl, rfl, rfl, rfl, rfl, trivial⟩ (memSame_all fun x hx => ?_) RS.nd RS.wn RS.kp
    rcases List.mem_cons.1 hx with rfl | hx
    · rw [look_cons, if_pos rfl]; rfl
    rcases List.mem_cons.1 hx with rfl | hx
    · rw [look_cons, if_neg (by show ¬ nx + 1 = nx; omega), look_cons, if_pos rfl]; rfl
    · have := hlt x hx
      rw [look_cons, look_cons, if_neg (by omega), if_neg (by omega)]
      exact look_mem R.nd hx
  rintro i ⟨n', cap', sp', N⟩ ⟨hi, s1, s2, s3, s4, s5⟩
  have c1 : nx + 1 ≤ n' := s1
  have c2 : n' < N := s2
  have c3 : (rl r w i).length ≤ cap' := s3
  have c4 : cap' ≤ maxI := s4
  have c5 : sp'.length = (cap' - (rl r w i).length) * 1 := s5
  have cn := Q.cn
  have nn := Q.nn
  have d1 : (n' = c) = False := eq_false (by omega)
  have d2 : (n' = n) = False := eq_false (by omega)
  have d3 : (n' = nx) = False := eq_false (by omega)
  have d4 : (nx = n') = False := eq_false (by omega)
  have d5 : (N = n') = False := eq_false (by omega)
  have hdl : del m n' = m := del_none fun p hp => by have := hlt p hp; omega
  have hlr := rl_le r w i
  rcases Nat.lt_or_ge i 4 with h | h
  · have g1 : decide ((i : Int) < 4) = true := decide_eq_true (by omega)
    have w1 : IntKind.i64.wrap ((i : Int) + 1) = ((i + 1 : Nat) : Int) := by rw [wrap_i64] <;> omega
    by_cases hiw : i = w
    · have b1 : ((i : Int) != (w : Int)) = false := by rw [hiw]; exact bne_self_eq_false _
      have hs : rl r w (i + 1) = rl r w i := by rw [rl, if_pos hiw]
      simp (config := { maxSteps := 1000000, implicitDefEqProofs := false }) only [-List.reduceReplicate, Nat.reduceBEq, renA, renL, renM, renO, evx, evs, evp, Eng.look, cst, cst1, putd, dstOk, params, loadx, partx, loI, hiI, bltx, mmI, boxx, srcx, calx, nilx, upd, del, resv, fillA, setMany, Nat.reduceLT, Nat.reduceLeDiff, Nat.reduceEqDiff, Nat.reduceAdd, Nat.reduceMul, Nat.reduceSub, reduceIte, reduceCtorEq, if_true, if_false, ite_true, ite_false, eq_self, forall_const, implies_true, Int.reduceLT, Int.reduceLE, Int.reduceToNat, Int.reduceAdd, Int.reduceSub, Int.reduceNeg, ne_eq, Int.reduceEq, Int.reduceNe, Int.reduceBEq, Int.reduceBNe, beq_self_eq_true, bne_self_eq_false, BitVec.reduceBEq, BitVec.reduceBNe, BitVec.reduceOfInt, BitVec.reduceSetWidth, wrD, engS0, engS1, engS2, engS3, engS4, engS5, engS6, engS7, engS8, engS9, engU0, engT0, engT1, engT2, Fx.t1, Fx.t2, Fx.t3, Fx.t4, Fx.t5, Fx.t52, Fx.t79, Fx.t82, Fx.t83, Fx.t91, Fx.t132, Fx.t133, Fx.t134, g1, b1, w1, symC, Rpt, d1, d2, d3, d4, e1, e2]
      refine UpX_normal h (n', cap', sp', N) ⟨c1, c2, by rw [hs]; exact c3, c4, by show sp'.length = cap' - (rl r w (i + 1)).length; rw [hs]; omega⟩ ?_
      have RS := Rdm.consN ((R.cons hlt (.cells (symC (Rpt l w)) 83)).up (show nx + 1 ≤ N by omega)) (n := n') (fun x hx => by
        rcases List.mem_cons.1 hx with rfl | hx
        · show nx ≠ n'; omega
        · have := hlt x hx; omega) (rlRow (rl r w (i + 1)) sp')
      refine Le.same (by show nx ≤ N; omega) ⟨rfl, by rw [hs]; rfl, rfl, rfl, rfl, trivial⟩ (memSame_all fun x hx => ?_) RS.nd RS.wn RS.kp
      rcases List.mem_cons.1 hx with rfl | hx
      · rw [look_cons, if_pos rfl, hs]
      rcases List.mem_cons.1 hx with rfl | hx
      · rw [look_cons, if_neg (by show ¬ n' = nx; omega), look_cons, if_pos rfl]
      · have := hlt x hx
        rw [look_cons, look_cons, if_neg (by omega), if_neg (by omega)]
        exact look_mem R.nd hx
    · have b1 : ((i : Int) != (w : Int)) = true := by simp; omega
      have hs : rl r w (i + 1) = rl r w i ++ [r.get i] := by rw [rl, if_neg hiw]
      have hgi := hgg i h
      simp (config := { maxSteps := 1000000, implicitDefEqProofs := false }) only [-List.reduceReplicate, Nat.reduceBEq, renA, renL, renM, renO, evx, evs, evp, Eng.look, cst, cst1, putd, dstOk, params, loadx, partx, loI, hiI, bltx, mmI, boxx, srcx, calx, nilx, upd, del, resv, fillA, setMany, Nat.reduceLT, Nat.reduceLeDiff, Nat.reduceEqDiff, Nat.reduceAdd, Nat.reduceMul, Nat.reduceSub, reduceIte, reduceCtorEq, if_true, if_false, ite_true, ite_false, eq_self, forall_const, implies_true, Int.reduceLT, Int.reduceLE, Int.reduceToNat, Int.reduceAdd, Int.reduceSub, Int.reduceNeg, ne_eq, Int.reduceEq, Int.reduceNe, Int.reduceBEq, Int.reduceBNe, beq_self_eq_true, bne_self_eq_false, BitVec.reduceBEq, BitVec.reduceBNe, BitVec.reduceOfInt, BitVec.reduceSetWidth, wrD, engS0, engS1, engS2, engS3, engS4, engS5, engS6, engS7, engS8, engS9, engU0, engT0, engT1, engT2, Fx.t1, Fx.t2, Fx.t3, Fx.t4, Fx.t5, Fx.t52, Fx.t79, Fx.t82, Fx.t83, Fx.t91, Fx.t132, Fx.t133, Fx.t134, g1, b1, w1, symC, Rpt, d1, d2, d3, d4, d5, e1, e2, o, q, codO, repRow, hgi, Int.toNat_natCast]
      refine ⟨by omega, by show i < 4 + sp.length; omega, .inr trivial, rfl, rfl, ?_⟩
      refine appk_cells (X := (rl r w i).map (AV.int .i64)) (sp := sp') (k := 1) (bt := 8) (s := 1) ?_ (R.wn _ (by omega)) (by rw [List.length_map, Nat.mul_one]) c5 c3 c4 (by omega) (by decide) ?_
      · rw [look_cons, look_cons, if_neg (by omega), if_pos rfl]; rfl
      intro cap2 sp2 f1 f2 f3
      simp (config := { maxSteps := 1000000, implicitDefEqProofs := false }) only [-List.reduceReplicate, Nat.reduceBEq, renA, renL, renM, renO, evx, evs, evp, Eng.look, cst, cst1, putd, dstOk, params, loadx, partx, loI, hiI, bltx, mmI, boxx, srcx, calx, nilx, upd, del, resv, fillA, setMany, Nat.reduceLT, Nat.reduceLeDiff, Nat.reduceEqDiff, Nat.reduceAdd, Nat.reduceMul, Nat.reduceSub, reduceIte, reduceCtorEq, if_true, if_false, ite_true, ite_false, eq_self, forall_const, implies_true, Int.reduceLT, Int.reduceLE, Int.reduceToNat, Int.reduceAdd, Int.reduceSub, Int.reduceNeg, ne_eq, Int.reduceEq, Int.reduceNe, Int.reduceBEq, Int.reduceBNe, beq_self_eq_true, bne_self_eq_false, BitVec.reduceBEq, BitVec.reduceBNe, BitVec.reduceOfInt, BitVec.reduceSetWidth, wrD, engS0, engS1, engS2, engS3, engS4, engS5, engS6, engS7, engS8, engS9, engU0, engT0, engT1, engT2, Fx.t1, Fx.t2, Fx.t3, Fx.t4, Fx.t5, Fx.t52, Fx.t79, Fx.t82, Fx.t83, Fx.t91, Fx.t132, Fx.t133, Fx.t134, w1, d1, d2, d3, d4, d5, e1, e2, hdl]
      refine UpX_normal h (N + 1, cap2, sp2, N + 1 + 1) ⟨by show nx + 1 ≤ N + 1; omega, Nat.lt_succ_self _, by rw [hs, List.length_append]; exact f1, f2, by show sp2.length = cap2 - (rl r w (i + 1)).length; rw [hs, List.length_append, List.length_singleton]; omega⟩ ?_
      have RS := Rdm.consN ((R.cons hlt (.cells (symC (Rpt l w)) 83)).up (show nx + 1 ≤ N + 1 + 1 by omega)) (n := N + 1) (fun x hx => by
        rcases List.mem_cons.1 hx with rfl | hx
        · show nx ≠ N + 1; omega
        · have := hlt x hx; omega) (rlRow (rl r w (i + 1)) sp2)
      refine Le.same (by show nx ≤ N + 1 + 1; omega) ⟨rfl, by rw [hs, List.length_append]; rfl, rfl, rfl, rfl, trivial⟩ (memSame_all fun x hx => ?_) RS.nd RS.wn RS.kp
      rcases List.mem_cons.1 hx with rfl | hx
      · rw [look_cons, if_pos rfl, hs, rlRow, List.map_append]; rfl
      rcases List.mem_cons.1 hx with rfl | hx
      · rw [look_cons, if_neg (by show ¬ N + 1 = nx; omega), look_cons, if_neg (by show ¬ N = nx; omega), look_cons, if_pos rfl]
      · have := hlt x hx
        rw [look_cons, look_cons, look_cons, if_neg (by omega), if_neg (by omega), if_neg (by omega)]
        exact look_mem R.nd hx
  · have hi4 : i = 4 := by omega
    subst hi4
    have hl4 := rl_len4 r w hw4
    have l1 : ((l : Int) == 1) = decide (l = 1) := by
      by_cases hl1 : l = 1
      · subst hl1; rfl
      · rw [decide_eq_false hl1]; simp; omega
    rcases Int.lt_or_le st 7 with k | k
    · have k1 : decide (st ≥ 7) = false := decide_eq_false (by omega)
      by_cases hl1 : l = 1
      · have l2 : ((l : Int) == 1) = true := by rw [l1, decide_eq_true hl1]
        simp (config := { maxSteps := 1000000, implicitDefEqProofs := false }) only [-List.reduceReplicate, Nat.reduceBEq, renA, renL, renM, renO, evx, evs, evp, Eng.look, cst, cst1, putd, dstOk, params, loadx, partx, loI, hiI, bltx, mmI, boxx, srcx, calx, nilx, upd, del, resv, fillA, setMany, Nat.reduceLT, Nat.reduceLeDiff, Nat.reduceEqDiff, Nat.reduceAdd, Nat.reduceMul, Nat.reduceSub, reduceIte, reduceCtorEq, if_true, if_false, ite_true, ite_false, eq_self, forall_const, implies_true, Int.reduceLT, Int.reduceLE, Int.reduceToNat, Int.reduceAdd, Int.reduceSub, Int.reduceNeg, ne_eq, Int.reduceEq, Int.reduceNe, Int.reduceBEq, Int.reduceBNe, beq_self_eq_true, bne_self_eq_false, BitVec.reduceBEq, BitVec.reduceBNe, BitVec.reduceOfInt, BitVec.reduceSetWidth, wrD, engS0, engS1, engS2, engS3, engS4, engS5, engS6, engS7, engS8, engS9, engU0, engT0, engT1, engT2, Fx.t1, Fx.t2, Fx.t3, Fx.t4, Fx.t5, Fx.t52, Fx.t79, Fx.t82, Fx.t83, Fx.t91, Fx.t132, Fx.t133, Fx.t134, d1, d2, d3, d4, e1, e2, o, codO, symC, Rpt, hu, huu, hw, k1, l2, hl4]
        rw [stR, if_neg (by omega), if_pos hl1]
        refine becFin R hlt (n' := n') (cap' := cap') (sp' := sp') (by omega) c2 ?_ fun x hx => ?_
        · rw [look_cons, if_pos rfl, rlRow, rl_four r w hw4]; rfl
        · have := upd_lt hlt _ _ x hx
          rw [look_cons, look_cons, if_neg (by omega), if_neg (by omega)]
          exact look_mem (R.upd c _).nd hx
      · have l2 : ((l : Int) == 1) = false := by rw [l1, decide_eq_false hl1]
        simp (config := { maxSteps := 1000000, implicitDefEqProofs := false }) only [-List.reduceReplicate, Nat.reduceBEq, renA, renL, renM, renO, evx, evs, evp, Eng.look, cst, cst1, putd, dstOk, params, loadx, partx, loI, hiI, bltx, mmI, boxx, srcx, calx, nilx, upd, del, resv, fillA, setMany, Nat.reduceLT, Nat.reduceLeDiff, Nat.reduceEqDiff, Nat.reduceAdd, Nat.reduceMul, Nat.reduceSub, reduceIte, reduceCtorEq, if_true, if_false, ite_true, ite_false, eq_self, forall_const, implies_true, Int.reduceLT, Int.reduceLE, Int.reduceToNat, Int.reduceAdd, Int.reduceSub, Int.reduceNeg, ne_eq, Int.reduceEq, Int.reduceNe, Int.reduceBEq, Int.reduceBNe, beq_self_eq_true, bne_self_eq_false, BitVec.reduceBEq, BitVec.reduceBNe, BitVec.reduceOfInt, BitVec.reduceSetWidth, wrD, engS0, engS1, engS2, engS3, engS4, engS5, engS6, engS7, engS8, engS9, engU0, engT0, engT1, engT2, Fx.t1, Fx.t2, Fx.t3, Fx.t4, Fx.t5, Fx.t52, Fx.t79, Fx.t82, Fx.t83, Fx.t91, Fx.t132, Fx.t133, Fx.t134, d1, d2, d3, d4, e1, e2, o, codO, symC, Rpt, hu, huu, hw, k1, l2, hl4]
        rw [stR, if_neg (by omega), if_neg hl1]
        refine becFin R hlt (n' := n') (cap' := cap') (sp' := sp') (by omega) c2 ?_ fun x hx => ?_
        · rw [look_cons, if_pos rfl, rlRow, rl_four r w hw4]; rfl
        · have := upd_lt hlt _ _ x hx
          rw [look_cons, look_cons, if_neg (by omega), if_neg (by omega)]
          exact look_mem (R.upd c _).nd hx
    · have k1 : decide (st ≥ 7) = true := decide_eq_true k
      by_cases hl1 : l = 1
      · have l2 : ((l : Int) == 1) = true := by rw [l1, decide_eq_true hl1]
        simp (config := { maxSteps := 1000000, implicitDefEqProofs := false }) only [-List.reduceReplicate, Nat.reduceBEq, renA, renL, renM, renO, evx, evs, evp, Eng.look, cst, cst1, putd, dstOk, params, loadx, partx, loI, hiI, bltx, mmI, boxx, srcx, calx, nilx, upd, del, resv, fillA, setMany, Nat.reduceLT, Nat.reduceLeDiff, Nat.reduceEqDiff, Nat.reduceAdd, Nat.reduceMul, Nat.reduceSub, reduceIte, reduceCtorEq, if_true, if_false, ite_true, ite_false, eq_self, forall_const, implies_true, Int.reduceLT, Int.reduceLE, Int.reduceToNat, Int.reduceAdd, Int.reduceSub, Int.reduceNeg, ne_eq, Int.reduceEq, Int.reduceNe, Int.reduceBEq, Int.reduceBNe, beq_self_eq_true, bne_self_eq_false, BitVec.reduceBEq, BitVec.reduceBNe, BitVec.reduceOfInt, BitVec.reduceSetWidth, wrD, engS0, engS1, engS2, engS3, engS4, engS5, engS6, engS7, engS8, engS9, engU0, engT0, engT1, engT2, Fx.t1, Fx.t2, Fx.t3, Fx.t4, Fx.t5, Fx.t52, Fx.t79, Fx.t82, Fx.t83, Fx.t91, Fx.t132, Fx.t133, Fx.t134, d1, d2, d3, d4, e1, e2, o, codO, symC, Rpt, hu, huu, hw, k1, l2, hl4]
        rw [stR, if_pos k]
        refine becFin R hlt (n' := n') (cap' := cap') (sp' := sp') (by omega) c2 ?_ fun x hx => ?_
        · rw [look_cons, if_pos rfl, rlRow, rl_four r w hw4]; rfl
        · have := upd_lt hlt _ _ x hx
          rw [look_cons, look_cons, if_neg (by omega), if_neg (by omega)]
          exact look_mem (R.upd c _).nd hx
      · have l2 : ((l : Int) == 1) = false := by rw [l1, decide_eq_false hl1]
        simp (config := { maxSteps := 1000000, implicitDefEqProofs := false }) only [-List.reduceReplicate, Nat.reduceBEq, renA, renL, renM, renO, evx, evs, evp, Eng.look, cst, cst1, putd, dstOk, params, loadx, partx, loI, hiI, bltx, mmI, boxx, srcx, calx, nilx, upd, del, resv, fillA, setMany, Nat.reduceLT, Nat.reduceLeDiff, Nat.reduceEqDiff, Nat.reduceAdd, Nat.reduceMul, Nat.reduceSub, reduceIte, reduceCtorEq, if_true, if_false, ite_true, ite_false, eq_self, forall_const, implies_true, Int.reduceLT, Int.reduceLE, Int.reduceToNat, Int.reduceAdd, Int.reduceSub, Int.reduceNeg, ne_eq, Int.reduceEq, Int.reduceNe, Int.reduceBEq, Int.reduceBNe, beq_self_eq_true, bne_self_eq_false, BitVec.reduceBEq, BitVec.reduceBNe, BitVec.reduceOfInt, BitVec.reduceSetWidth, wrD, engS0, engS1, engS2, engS3, engS4, engS5, engS6, engS7, engS8, engS9, engU0, engT0, engT1, engT2, Fx.t1, Fx.t2, Fx.t3, Fx.t4, Fx.t5, Fx.t52, Fx.t79, Fx.t82, Fx.t83, Fx.t91, Fx.t132, Fx.t133, Fx.t134, d1, d2, d3, d4, e1, e2, o, codO, symC, Rpt, hu, huu, hw, k1, l2, hl4]
        rw [stR, if_pos k]
        refine becFin R hlt (n' := n') (cap' := cap') (sp' := sp') (by omega) c2 ?_ fun x hx => ?_
        · rw [look_cons, if_pos rfl, rlRow, rl_four r w hw4]; rfl
        · have := upd_lt hlt _ _ x hx
          rw [look_cons, look_cons, if_neg (by omega), if_neg (by omega)]
          exact look_mem (R.upd c _).nd hx
end
end Go.Proofs.Ytmnbbpckglppjaa
