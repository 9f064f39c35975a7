/- The document's delta: each byte less, or plus, the one a distance back, told one by one. -/
import Derived.Test.YtiibjaommelkkaaEng19
import Derived.Test.YtiibjaommelkkaaEng26
import Derived.Test.YtiibjaommelkkaaDelta
set_option linter.unusedVariables false
set_option linter.unusedSimpArgs false
set_option maxRecDepth 100000
namespace Go.Proofs.Ytiibjaommelkkaa
open Go Go.Eng

/-- bytes that were appended one by one -/
def Lst (e : Nat → BitVec 8) (n : Nat) : List (BitVec 8) := (List.range n).map e
theorem Lst_len (e : Nat → BitVec 8) (n : Nat) : (Lst e n).length = n := by simp [Lst]
theorem Lst_succ (e : Nat → BitVec 8) (n : Nat) : Lst e n ++ [e n] = Lst e (n + 1) := by simp [Lst, List.range_succ]
/-- a slice that was appended to: nil at first -/
def apS (s : Nat) (e : Nat → BitVec 8) (rest : Nat → Slots) : Nat → Nat × List Value → Slots × Mem × Nat
  | 0, _ => ((s, .nils) :: rest 0, [], 0)
  | n + 1, x => ((s, .sl 0 0 (n + 1) x.1) :: rest (n + 1), [(0, .cells (bvs .u8 (Lst e (n + 1)) ++ x.2.map AV.val) 5)], 1)
theorem apS_0 (s : Nat) (e : Nat → BitVec 8) (rest : Nat → Slots) (x : Nat × List Value) : apS s e rest 0 x = ((s, .nils) :: rest 0, [], 0) := rfl
theorem apS_succ (s : Nat) (e : Nat → BitVec 8) (rest : Nat → Slots) (n : Nat) (x : Nat × List Value) : apS s e rest (n + 1) x = ((s, .sl 0 0 (n + 1) x.1) :: rest (n + 1), [(0, .cells (bvs .u8 (Lst e (n + 1)) ++ x.2.map AV.val) 5)], 1) := rfl
def apQ (n : Nat) (x : Nat × List Value) : Prop := 0 < n → n + x.2.length = x.1 ∧ x.1 ≤ maxI
/-- what such a function answers -/
def ApR (e : Nat → BitVec 8) (n : Nat) : Kv := fun v m nx =>
  if n = 0 then v = .nils ∧ m = [] ∧ nx = 0
  else ∃ (cap : Nat) (sp : List Value), v = .sl 0 0 n cap ∧ m = [(0, .cells (bvs .u8 (Lst e n) ++ sp.map AV.val) 5)] ∧ nx = 1
def encE (b : List (BitVec 8)) (d : Nat) (i : Nat) : BitVec 8 := if d ≤ i then b.getD i 0 - b.getD (i - d) 0 else b.getD i 0
set_option maxHeartbeats 400000 in
theorem rencOk (b : List (BitVec 8)) (hb : b.length ≤ 1000000) (d : Nat) (hd1 : 1 ≤ d) (hd2 : d ≤ 256) :
    CallOk Try.prog 18 [.ro b.length (bvs .u8 b), .int .i64 d] (fun _ => true) [] 0 (ApR (encE b d) b.length) := by
  refine fn_ok Try.func18 rfl (by show 2 ≤ _; decide) ?_
  simp (config := { maxSteps := 1000000, implicitDefEqProofs := false }) only [-List.reduceReplicate, Nat.reduceBEq, renA, renL, renM, renO, evx, evs, evp, Eng.look, cst, cst1, putd, dstOk, params, loadx, partx, loI, hiI, bltx, mmI, boxx, srcx, calx, nilx, upd, del, resv, fillA, setMany, Nat.reduceLT, Nat.reduceLeDiff, Nat.reduceEqDiff, Nat.reduceAdd, Nat.reduceMul, Nat.reduceSub, reduceIte, reduceCtorEq, if_true, if_false, ite_true, ite_false, eq_self, forall_const, implies_true, Int.reduceLT, Int.reduceLE, Int.reduceToNat, Int.reduceAdd, Int.reduceSub, Int.reduceNeg, ne_eq, Int.reduceEq, Int.reduceNe, Int.reduceBEq, Int.reduceBNe, beq_self_eq_true, bne_self_eq_false, BitVec.reduceBEq, BitVec.reduceBNe, BitVec.reduceOfInt, BitVec.reduceSetWidth, wrD, engS0, engS1, engS2, engS3, engS4, engS5, engS6, engS7, engS8, engS9, engT0, engT1, engT2, Fx.t1, Fx.t3, Fx.t4, Fx.t5, Fx.t22, Try.results18, Try.ntmps18]
  refine LoopOk.upX apQ b.length (apS 5 (encE b d) fun n => [(6, .int .i64 n), (0, .ro b.length (bvs .u8 b)), (1, .int .i64 d)]) (0, []) (fun h => by omega) (by simp only [apS_0]; exact (Le.sameT (by decide) (by simp only [-List.reduceReplicate, slotsSame, Eng.look, Nat.reduceEqDiff, reduceIte, reduceCtorEq, if_true, if_false, eq_self, true_and, and_true, Option.some.injEq, AV.int.injEq]; (try simp (disch := omega) only [wrap_i64]); (try simp [-List.reduceReplicate]); (try omega)) (by simp only [-List.reduceReplicate, memSame, Eng.look, Nat.reduceEqDiff, reduceIte, reduceCtorEq, if_true, if_false, eq_self, true_and, and_true, Option.some.injEq, AObj.cells.injEq, bvs_rep8, bvs_rep16, bvs_rep32, bvs_rep64, bvs_flat_rep, Nat.reduceMul, bvs_append, List.replicate_append_replicate, Nat.reduceAdd, bvs_inj]; try simp [-List.reduceReplicate]) (by simp [-List.reduceReplicate]))) ?_
  intro n x ⟨hn, hq⟩
  generalize hS : (apS 5 (encE b d) fun n => [(6, .int .i64 n), (0, .ro b.length (bvs .u8 b)), (1, .int .i64 d)]) = S
  rcases Nat.lt_or_ge n b.length with h' | h'
  · have f1 : decide ((n : Int) < (b.length : Int)) = true := by simp; omega
    have wn : IntKind.i64.wrap ((n : Int) + 1) = ((n + 1 : Nat) : Int) := by rw [wrap_i64] <;> omega
    rcases Nat.lt_or_ge n d with g | g
    · have f2 : decide ((n : Int) ≥ (d : Int)) = false := by simp; omega
      have fe : encE b d n = b.getD n 0 := by rw [encE, if_neg (by omega)]
      rcases n with _ | n
      · have f1' : decide ((0 : Int) < (b.length : Int)) = true := by simp; omega
        have f2' : decide ((0 : Int) ≥ (d : Int)) = false := by simp; omega
        rw [← hS, apS_0, hS]
        simp (config := { maxSteps := 1000000, implicitDefEqProofs := false }) only [-List.reduceReplicate, Nat.reduceBEq, renA, renL, renM, renO, evx, evs, evp, Eng.look, cst, cst1, putd, dstOk, params, loadx, partx, loI, hiI, bltx, mmI, boxx, srcx, calx, nilx, upd, del, resv, fillA, setMany, Nat.reduceLT, Nat.reduceLeDiff, Nat.reduceEqDiff, Nat.reduceAdd, Nat.reduceMul, Nat.reduceSub, reduceIte, reduceCtorEq, if_true, if_false, ite_true, ite_false, eq_self, forall_const, implies_true, Int.reduceLT, Int.reduceLE, Int.reduceToNat, Int.reduceAdd, Int.reduceSub, Int.reduceNeg, ne_eq, Int.reduceEq, Int.reduceNe, Int.reduceBEq, Int.reduceBNe, beq_self_eq_true, bne_self_eq_false, BitVec.reduceBEq, BitVec.reduceBNe, BitVec.reduceOfInt, BitVec.reduceSetWidth, wrD, engS0, engS1, engS2, engS3, engS4, engS5, engS6, engS7, engS8, engS9, engT0, engT1, engT2, Fx.t1, Fx.t3, Fx.t4, Fx.t5, Fx.t22, f1', f2', List.length_drop]
        refine ⟨by omega, by omega, by omega, .inr trivial, rfl, ?_⟩
        refine appk_nils (y := [b.getD 0 0]) (by decide) (by simp) (fun h => by cases h) fun _ cap' sp' c1 c2 => ?_
        simp (config := { maxSteps := 1000000, implicitDefEqProofs := false }) only [-List.reduceReplicate, Nat.reduceBEq, renA, renL, renM, renO, evx, evs, evp, Eng.look, cst, cst1, putd, dstOk, params, loadx, partx, loI, hiI, bltx, mmI, boxx, srcx, calx, nilx, upd, del, resv, fillA, setMany, Nat.reduceLT, Nat.reduceLeDiff, Nat.reduceEqDiff, Nat.reduceAdd, Nat.reduceMul, Nat.reduceSub, reduceIte, reduceCtorEq, if_true, if_false, ite_true, ite_false, eq_self, forall_const, implies_true, Int.reduceLT, Int.reduceLE, Int.reduceToNat, Int.reduceAdd, Int.reduceSub, Int.reduceNeg, ne_eq, Int.reduceEq, Int.reduceNe, Int.reduceBEq, Int.reduceBNe, beq_self_eq_true, bne_self_eq_false, BitVec.reduceBEq, BitVec.reduceBNe, BitVec.reduceOfInt, BitVec.reduceSetWidth, wrD, engS0, engS1, engS2, engS3, engS4, engS5, engS6, engS7, engS8, engS9, engT0, engT1, engT2, Fx.t1, Fx.t3, Fx.t4, Fx.t5, Fx.t22]
        refine UpX_normal h' (cap', sp') (fun _ => ⟨by simpa [Nat.add_comm] using c1, c2⟩) ?_
        rw [← hS, apS_succ, ← Lst_succ, fe]
        exact (Le.one (n' := 1) (by simp only [-List.reduceReplicate, slotsLe, Eng.look, renA, renL, rf_one, bvs_ren, Lst, List.range_zero, List.map_nil, List.nil_append, bvs_cons, bvs_nil, renL_append, renL, renA, renL_vals, List.cons_append, Nat.reduceEqDiff, reduceIte, reduceCtorEq, if_true, if_false, eq_self, true_and, and_true, Option.some.injEq, AV.int.injEq]; (try simp (disch := omega) only [wrap_i64]); (try simp [-List.reduceReplicate]); (try omega)) (by simp only [Eng.look, Nat.reduceEqDiff, reduceIte, if_true, if_false, reduceCtorEq, renO, renL_vals', Lst, List.range_zero, List.map_nil, List.nil_append, bvs_cons, bvs_nil, renL_append, renL, renA, renL_vals, List.cons_append]))
      · have hc := hq (by omega)
        rw [← hS, apS_succ, hS]
        simp (config := { maxSteps := 1000000, implicitDefEqProofs := false }) only [-List.reduceReplicate, Nat.reduceBEq, renA, renL, renM, renO, evx, evs, evp, Eng.look, cst, cst1, putd, dstOk, params, loadx, partx, loI, hiI, bltx, mmI, boxx, srcx, calx, nilx, upd, del, resv, fillA, setMany, Nat.reduceLT, Nat.reduceLeDiff, Nat.reduceEqDiff, Nat.reduceAdd, Nat.reduceMul, Nat.reduceSub, reduceIte, reduceCtorEq, if_true, if_false, ite_true, ite_false, eq_self, forall_const, implies_true, Int.reduceLT, Int.reduceLE, Int.reduceToNat, Int.reduceAdd, Int.reduceSub, Int.reduceNeg, ne_eq, Int.reduceEq, Int.reduceNe, Int.reduceBEq, Int.reduceBNe, beq_self_eq_true, bne_self_eq_false, BitVec.reduceBEq, BitVec.reduceBNe, BitVec.reduceOfInt, BitVec.reduceSetWidth, wrD, engS0, engS1, engS2, engS3, engS4, engS5, engS6, engS7, engS8, engS9, engT0, engT1, engT2, Fx.t1, Fx.t3, Fx.t4, Fx.t5, Fx.t22, f1, f2, List.length_drop]
        refine ⟨by omega, by omega, by omega, .inr trivial, rfl, ?_⟩
        have hx : n + 1 = (Lst (encE b d) (n + 1)).length := (Lst_len _ _).symm
        have ap := fun {K : Kv} (hK) => appk_bvs (wr := fun _ => true) (m := [(1, AObj.cells (bvs .u8 ((List.replicate 1 (0 : BitVec 8)).set 0 (b.getD (n + 1) 0))) 5), (0, AObj.cells (bvs .u8 (Lst (encE b d) (n + 1)) ++ x.2.map AV.val) 5)]) (nx := 2) (K := K) (k := .u8) (x := Lst (encE b d) (n + 1)) (y := [b.getD (n + 1) 0]) (sp := x.2) (n := 0) (cap := x.1) (e := 5) (bt := 1) rfl rfl (by rw [Lst_len]; exact hc.1) hc.2 (by decide) (by rw [Lst_len]; simp; omega) hK
        rw [Lst_len] at ap
        refine ap fun cap' sp' c1 c2 => ?_
        rw [← fe, Lst_succ, Lst_len]
        rw [← fe, Lst_succ, Lst_len] at c1
        simp (config := { maxSteps := 1000000, implicitDefEqProofs := false }) only [-List.reduceReplicate, Nat.reduceBEq, renA, renL, renM, renO, evx, evs, evp, Eng.look, cst, cst1, putd, dstOk, params, loadx, partx, loI, hiI, bltx, mmI, boxx, srcx, calx, nilx, upd, del, resv, fillA, setMany, Nat.reduceLT, Nat.reduceLeDiff, Nat.reduceEqDiff, Nat.reduceAdd, Nat.reduceMul, Nat.reduceSub, reduceIte, reduceCtorEq, if_true, if_false, ite_true, ite_false, eq_self, forall_const, implies_true, Int.reduceLT, Int.reduceLE, Int.reduceToNat, Int.reduceAdd, Int.reduceSub, Int.reduceNeg, ne_eq, Int.reduceEq, Int.reduceNe, Int.reduceBEq, Int.reduceBNe, beq_self_eq_true, bne_self_eq_false, BitVec.reduceBEq, BitVec.reduceBNe, BitVec.reduceOfInt, BitVec.reduceSetWidth, wrD, engS0, engS1, engS2, engS3, engS4, engS5, engS6, engS7, engS8, engS9, engT0, engT1, engT2, Fx.t1, Fx.t3, Fx.t4, Fx.t5, Fx.t22]
        refine UpX_normal h' (cap', sp') (fun _ => ⟨c1, c2⟩) ?_
        rw [← hS, apS_succ]
        exact (Le.one (n' := 2) (by simp only [-List.reduceReplicate, slotsLe, Eng.look, renA, renL, rf_one, bvs_ren, bvs_cons, bvs_nil, Nat.reduceEqDiff, reduceIte, reduceCtorEq, if_true, if_false, eq_self, true_and, and_true, Option.some.injEq, AV.int.injEq]; (try simp (disch := omega) only [wrap_i64]); (try simp [-List.reduceReplicate]); (try omega)) (by simp only [Eng.look, Nat.reduceEqDiff, reduceIte, if_true, if_false, reduceCtorEq, renO, renL_vals', bvs_cons, bvs_nil]))
    · have f2 : decide ((n : Int) ≥ (d : Int)) = true := by simp; omega
      have fe : encE b d n = b.getD n 0 - b.getD (n - d) 0 := by rw [encE, if_pos (by omega)]
      rcases n with _ | n
      · omega
      · have hc := hq (by omega)
        have wi' : IntKind.i64.wrap (((n + 1 : Nat) : Int) - (d : Int)) = ((n + 1 - d : Nat) : Int) := by rw [wrap_i64] <;> omega
        rw [← hS, apS_succ, hS]
        simp (config := { maxSteps := 1000000, implicitDefEqProofs := false }) only [-List.reduceReplicate, Nat.reduceBEq, renA, renL, renM, renO, evx, evs, evp, Eng.look, cst, cst1, putd, dstOk, params, loadx, partx, loI, hiI, bltx, mmI, boxx, srcx, calx, nilx, upd, del, resv, fillA, setMany, Nat.reduceLT, Nat.reduceLeDiff, Nat.reduceEqDiff, Nat.reduceAdd, Nat.reduceMul, Nat.reduceSub, reduceIte, reduceCtorEq, if_true, if_false, ite_true, ite_false, eq_self, forall_const, implies_true, Int.reduceLT, Int.reduceLE, Int.reduceToNat, Int.reduceAdd, Int.reduceSub, Int.reduceNeg, ne_eq, Int.reduceEq, Int.reduceNe, Int.reduceBEq, Int.reduceBNe, beq_self_eq_true, bne_self_eq_false, BitVec.reduceBEq, BitVec.reduceBNe, BitVec.reduceOfInt, BitVec.reduceSetWidth, wrD, engS0, engS1, engS2, engS3, engS4, engS5, engS6, engS7, engS8, engS9, engT0, engT1, engT2, Fx.t1, Fx.t3, Fx.t4, Fx.t5, Fx.t22, f1, f2, wi', List.length_drop]
        refine ⟨by omega, by omega, by omega, by omega, by omega, by omega, .inr trivial, rfl, ?_⟩
        have ap := fun {K : Kv} (hK) => appk_bvs (wr := fun _ => true) (m := [(1, AObj.cells (bvs .u8 ((List.replicate 1 (0 : BitVec 8)).set 0 (b.getD (n + 1) 0 - b.getD (n + 1 - d) 0))) 5), (0, AObj.cells (bvs .u8 (Lst (encE b d) (n + 1)) ++ x.2.map AV.val) 5)]) (nx := 2) (K := K) (k := .u8) (x := Lst (encE b d) (n + 1)) (y := [b.getD (n + 1) 0 - b.getD (n + 1 - d) 0]) (sp := x.2) (n := 0) (cap := x.1) (e := 5) (bt := 1) rfl rfl (by rw [Lst_len]; exact hc.1) hc.2 (by decide) (by rw [Lst_len]; simp; omega) hK
        rw [Lst_len] at ap
        refine ap fun cap' sp' c1 c2 => ?_
        rw [← fe, Lst_succ, Lst_len]
        rw [← fe, Lst_succ, Lst_len] at c1
        simp (config := { maxSteps := 1000000, implicitDefEqProofs := false }) only [-List.reduceReplicate, Nat.reduceBEq, renA, renL, renM, renO, evx, evs, evp, Eng.look, cst, cst1, putd, dstOk, params, loadx, partx, loI, hiI, bltx, mmI, boxx, srcx, calx, nilx, upd, del, resv, fillA, setMany, Nat.reduceLT, Nat.reduceLeDiff, Nat.reduceEqDiff, Nat.reduceAdd, Nat.reduceMul, Nat.reduceSub, reduceIte, reduceCtorEq, if_true, if_false, ite_true, ite_false, eq_self, forall_const, implies_true, Int.reduceLT, Int.reduceLE, Int.reduceToNat, Int.reduceAdd, Int.reduceSub, Int.reduceNeg, ne_eq, Int.reduceEq, Int.reduceNe, Int.reduceBEq, Int.reduceBNe, beq_self_eq_true, bne_self_eq_false, BitVec.reduceBEq, BitVec.reduceBNe, BitVec.reduceOfInt, BitVec.reduceSetWidth, wrD, engS0, engS1, engS2, engS3, engS4, engS5, engS6, engS7, engS8, engS9, engT0, engT1, engT2, Fx.t1, Fx.t3, Fx.t4, Fx.t5, Fx.t22]
        refine UpX_normal h' (cap', sp') (fun _ => ⟨c1, c2⟩) ?_
        rw [← hS, apS_succ]
        exact (Le.one (n' := 2) (by simp only [-List.reduceReplicate, slotsLe, Eng.look, renA, renL, rf_one, bvs_ren, bvs_cons, bvs_nil, Nat.reduceEqDiff, reduceIte, reduceCtorEq, if_true, if_false, eq_self, true_and, and_true, Option.some.injEq, AV.int.injEq]; (try simp (disch := omega) only [wrap_i64]); (try simp [-List.reduceReplicate]); (try omega)) (by simp only [Eng.look, Nat.reduceEqDiff, reduceIte, if_true, if_false, reduceCtorEq, renO, renL_vals', bvs_cons, bvs_nil]))
  · have hnb : n = b.length := by omega
    have f1 : decide ((n : Int) < (b.length : Int)) = false := by simp; omega
    rcases n with _ | n
    · have f1' : decide ((0 : Int) < (b.length : Int)) = false := decide_eq_false (by omega)
      rw [← hS, apS_0, hS]
      simp (config := { maxSteps := 1000000, implicitDefEqProofs := false }) only [-List.reduceReplicate, Nat.reduceBEq, renA, renL, renM, renO, evx, evs, evp, Eng.look, cst, cst1, putd, dstOk, params, loadx, partx, loI, hiI, bltx, mmI, boxx, srcx, calx, nilx, upd, del, resv, fillA, setMany, Nat.reduceLT, Nat.reduceLeDiff, Nat.reduceEqDiff, Nat.reduceAdd, Nat.reduceMul, Nat.reduceSub, reduceIte, reduceCtorEq, if_true, if_false, ite_true, ite_false, eq_self, forall_const, implies_true, Int.reduceLT, Int.reduceLE, Int.reduceToNat, Int.reduceAdd, Int.reduceSub, Int.reduceNeg, ne_eq, Int.reduceEq, Int.reduceNe, Int.reduceBEq, Int.reduceBNe, beq_self_eq_true, bne_self_eq_false, BitVec.reduceBEq, BitVec.reduceBNe, BitVec.reduceOfInt, BitVec.reduceSetWidth, wrD, engS0, engS1, engS2, engS3, engS4, engS5, engS6, engS7, engS8, engS9, engT0, engT1, engT2, Fx.t1, Fx.t3, Fx.t4, Fx.t5, Fx.t22, f1']
      refine Fin.flatv (fun _ => rfl) (fun f => rfl) ?_
      rw [ApR, if_pos hnb.symm]
      exact ⟨rfl, rfl, rfl⟩
    · rw [← hS, apS_succ, hS]
      simp (config := { maxSteps := 1000000, implicitDefEqProofs := false }) only [-List.reduceReplicate, Nat.reduceBEq, renA, renL, renM, renO, evx, evs, evp, Eng.look, cst, cst1, putd, dstOk, params, loadx, partx, loI, hiI, bltx, mmI, boxx, srcx, calx, nilx, upd, del, resv, fillA, setMany, Nat.reduceLT, Nat.reduceLeDiff, Nat.reduceEqDiff, Nat.reduceAdd, Nat.reduceMul, Nat.reduceSub, reduceIte, reduceCtorEq, if_true, if_false, ite_true, ite_false, eq_self, forall_const, implies_true, Int.reduceLT, Int.reduceLE, Int.reduceToNat, Int.reduceAdd, Int.reduceSub, Int.reduceNeg, ne_eq, Int.reduceEq, Int.reduceNe, Int.reduceBEq, Int.reduceBNe, beq_self_eq_true, bne_self_eq_false, BitVec.reduceBEq, BitVec.reduceBNe, BitVec.reduceOfInt, BitVec.reduceSetWidth, wrD, engS0, engS1, engS2, engS3, engS4, engS5, engS6, engS7, engS8, engS9, engT0, engT1, engT2, Fx.t1, Fx.t3, Fx.t4, Fx.t5, Fx.t22, f1]
      refine ⟨[(0, 0)], .sl 0 0 (n + 1) x.1, [(0, .cells (bvs .u8 (Lst (encE b d) (n + 1)) ++ x.2.map AV.val) 5)], 1, ⟨rfl, by decide⟩, rfl, ⟨by simp only [renO, renL_vals']; rfl, rfl, trivial⟩, by simp [injOn], (fun n e => by cases e), ?_⟩
      rw [ApR, if_neg (by omega), ← hnb]
      exact ⟨_, _, rfl, rfl, rfl⟩
end Go.Proofs.Ytiibjaommelkkaa
